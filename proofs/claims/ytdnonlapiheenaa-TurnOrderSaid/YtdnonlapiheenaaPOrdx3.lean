-- Printed by a program of ours (wip/common/mkprint.py), turned from the kit's print; Lean checks it.
import Derived.Test.YtdnonlapiheenaaPOrdx0
import Derived.Test.YtdnonlapiheenaaPOrdx1
import Derived.Test.YtdnonlapiheenaaPOrdx2
namespace Go.Proofs.Ytdnonlapiheenaa.POrd
open Go.RowKit Go.Proofs.YtdnonlapiheenaaW.PrintWords Go.Proofs.YtdnonlapiheenaaW.PrintLast Go.Proofs.YtdnonlapiheenaaW.PrintMore
attribute [local go_sem] max2_int min2_int max_two min_two max_three min_three max_four min_four   -- for this text's walks alone
set_option linter.unusedVariables false
set_option linter.unusedSimpArgs false

/-! ### remontoirlaw08_TurnOrder: function 3 -/
def remontoirlaw08_TurnOrder.j0 : Nat → Int → Bool → Int → Int → Int → Int → Int → Int → Int → Int → Int → Option (Bool)
  | 0, _, _, _, _, _, _, _, _, _, _, _ => none
  | k + 1, x5, x36, x138000, x138001, x138002, x139000, x139001, x139002, x140000, x140001, x140002 => if x36 = true then (none) else ((turn_Less.f x5 x138000 x138001 x138002 x139000 x139001 x139002).bind fun t143 => (if t143 = true then ((turn_Less.f x5 x139000 x139001 x139002 x140000 x140001 x140002).bind fun t144 => (if t144 = true then ((turn_Less.f x5 x138000 x138001 x138002 x140000 x140001 x140002).bind fun t145 => (if t145 = true then ((remontoirlaw08_wakes.f k).bind fun t146 => (some t146)) else (none))) else ((remontoirlaw08_wakes.f k).bind fun t147 => (some t147)))) else ((remontoirlaw08_wakes.f k).bind fun t148 => (some t148))))
def remontoirlaw08_TurnOrder.f (k : Nat) (a0 : Int) (a1_0 : Int) (a1_1 : Int) (a1_2 : Int) (a1_3 : Int) (a1_4 : Int) (a1_5 : Int) : Option (Bool) := (remontoirlaw08_job.f 1 a1_0 a1_1).bind fun bt128 => ((remontoirlaw08_job.f 2 a1_2 a1_3).bind fun bt131 => ((remontoirlaw08_job.f 3 a1_4 a1_5).bind fun bt134 => ((turn_Less.f (wrap64 (1 + (Int.tmod (wrap64 (a0)) 1000))) bt128.1 bt128.2.1 bt128.2.2 bt131.1 bt131.2.1 bt131.2.2).bind fun t140 => ((turn_Less.f (wrap64 (1 + (Int.tmod (wrap64 (a0)) 1000))) bt131.1 bt131.2.1 bt131.2.2 bt128.1 bt128.2.1 bt128.2.2).bind fun t141 => (if (t140 == t141) = true then (remontoirlaw08_TurnOrder.j0 k (wrap64 (1 + (Int.tmod (wrap64 (a0)) 1000))) true bt128.1 bt128.2.1 bt128.2.2 bt131.1 bt131.2.1 bt131.2.2 bt134.1 bt134.2.1 bt134.2.2) else ((turn_Less.f (wrap64 (1 + (Int.tmod (wrap64 (a0)) 1000))) bt128.1 bt128.2.1 bt128.2.2 bt128.1 bt128.2.1 bt128.2.2).bind fun t142 => (remontoirlaw08_TurnOrder.j0 k (wrap64 (1 + (Int.tmod (wrap64 (a0)) 1000))) t142 bt128.1 bt128.2.1 bt128.2.2 bt131.1 bt131.2.1 bt131.2.2 bt134.1 bt134.2.1 bt134.2.2)))))))
theorem remontoirlaw08_TurnOrder.mono_l : ∀ k, (∀ y0 y1 y2 y3 y4 y5 y6 y7 y8 y9 y10, LeO (remontoirlaw08_TurnOrder.j0 k y0 y1 y2 y3 y4 y5 y6 y7 y8 y9 y10) (remontoirlaw08_TurnOrder.j0 (k + 1) y0 y1 y2 y3 y4 y5 y6 y7 y8 y9 y10))
  | 0 => fun _ _ _ _ _ _ _ _ _ _ _ r h => by simp [remontoirlaw08_TurnOrder.j0] at h
  | k + 1 => by
    have ih0 := remontoirlaw08_TurnOrder.mono_l k
    · intro y0 y1 y2 y3 y4 y5 y6 y7 y8 y9 y10
      unfold remontoirlaw08_TurnOrder.j0
      repeat' first
      | (with_reducible exact ih0 _ _ _ _ _ _ _ _ _ _ _)
      | (with_reducible exact remontoirlaw08_wakes.mono _)
      | (with_reducible exact LeO.refl _)
      | (with_reducible exact LeO.none _)
      | (with_reducible refine LeO.ite ?_ ?_)
      | (with_reducible refine LeO.bind ?_ (fun _ => ?_))
      | exact ih0 _ _ _ _ _ _ _ _ _ _ _
      | exact remontoirlaw08_wakes.mono _
      | exact LeO.none _
      | refine LeO.ite ?_ ?_
      | refine LeO.bind ?_ (fun _ => ?_)
theorem remontoirlaw08_TurnOrder.mono : ∀ a0 a1 a2 a3 a4 a5 a6 k, LeO (remontoirlaw08_TurnOrder.f k a0 a1 a2 a3 a4 a5 a6) (remontoirlaw08_TurnOrder.f (k + 1) a0 a1 a2 a3 a4 a5 a6) := by
  intro a0 a1 a2 a3 a4 a5 a6 k
  have ih0 := remontoirlaw08_TurnOrder.mono_l k
  unfold remontoirlaw08_TurnOrder.f
  repeat' first
      | (with_reducible exact ih0 _ _ _ _ _ _ _ _ _ _ _)
      | (with_reducible exact remontoirlaw08_wakes.mono _)
      | (with_reducible exact LeO.refl _)
      | (with_reducible exact LeO.none _)
      | (with_reducible refine LeO.ite ?_ ?_)
      | (with_reducible refine LeO.bind ?_ (fun _ => ?_))
      | exact ih0 _ _ _ _ _ _ _ _ _ _ _
      | exact remontoirlaw08_wakes.mono _
      | exact LeO.none _
      | refine LeO.ite ?_ ?_
      | refine LeO.bind ?_ (fun _ => ?_)
def remontoirlaw08_TurnOrder.T2 : Bool × List (List Nat × List Nat) := (true, [([], []), ([0], [0]), ([1], [1]), ([], []), ([3], [3]), ([4, 2], [4]), ([], []), ([6], [6]), ([7, 5], [7]), ([], []), ([], []), ([], []), ([9, 2, 8, 0, 1, 2, 9, 10, 11], [2, 9]), ([10, 5, 12, 0, 1, 2, 3, 4, 5, 9, 10, 11, 12], [5, 10]), ([11, 8, 13, 0, 1, 2, 3, 4, 5, 6, 7, 8, 9, 10, 11, 12, 13], [8, 11])])
def remontoirlaw08_TurnOrder.B2 : List Nat := [0, 1, 3, 0, 8, 31, 0, 64, 255, 0, 0, 0, 4095, 8191, 16383]
theorem remontoirlaw08_TurnOrder.tab2 : rtab .any (opsOf Try.f3 2) = remontoirlaw08_TurnOrder.T2 := by kernel_rfl
theorem remontoirlaw08_TurnOrder.bits2 : waitsOk remontoirlaw08_TurnOrder.T2.2 remontoirlaw08_TurnOrder.B2 = true := by kernel_rfl
def remontoirlaw08_TurnOrder.T3 : Bool × List (List Nat × List Nat) := (true, [([], []), ([], []), ([], []), ([0, 1, 2], [0, 1, 2]), ([], []), ([], []), ([], []), ([4, 5, 6, 3], [4, 5, 6]), ([3, 7], [3, 7]), ([8, 7], [8]), ([9], [9]), ([9], [9]), ([9], [9]), ([10, 11, 12, 9, 9], [9, 10, 11, 12]), ([9, 13], [9, 13])])
def remontoirlaw08_TurnOrder.B3 : List Nat := [0, 0, 0, 7, 0, 0, 0, 127, 255, 511, 1023, 1023, 1023, 8191, 16383]
theorem remontoirlaw08_TurnOrder.tab3 : rtab .any (opsOf Try.f3 3) = remontoirlaw08_TurnOrder.T3 := by kernel_rfl
theorem remontoirlaw08_TurnOrder.bits3 : waitsOk remontoirlaw08_TurnOrder.T3.2 remontoirlaw08_TurnOrder.B3 = true := by kernel_rfl
set_option maxHeartbeats 8000000 in
set_option maxRecDepth 100000 in
theorem remontoirlaw08_TurnOrder.calls (k : Nat) (a0 : Int) (a1_0 : Int) (a1_1 : Int) (a1_2 : Int) (a1_3 : Int) (a1_4 : Int) (a1_5 : Int) (r : Bool) (w : World) (h : remontoirlaw08_TurnOrder.f k a0 a1_0 a1_1 a1_2 a1_3 a1_4 a1_5 = some r) :
    Calls Try.prog 3 #[.int .u16 a0, .agg #[.int .u16 a1_0, .int .u16 a1_1, .int .u16 a1_2, .int .u16 a1_3, .int .u16 a1_4, .int .u16 a1_5]] w fun e w' => e = .returned (.bool r) ∧ Below w.heap.size w w' := by
  have hu24 := Try.underlying24
  have hu23 := Try.underlying23
  have hu26 := Try.underlying26
  have HB := Aside0.mk (Below.refl w.heap.size w)
  have H : ((remontoirlaw08_job.f 1 a1_0 a1_1).bind fun bt128 => ((remontoirlaw08_job.f 2 a1_2 a1_3).bind fun bt131 => ((remontoirlaw08_job.f 3 a1_4 a1_5).bind fun bt134 => ((turn_Less.f (wrap64 (1 + (Int.tmod (wrap64 (a0)) 1000))) bt128.1 bt128.2.1 bt128.2.2 bt131.1 bt131.2.1 bt131.2.2).bind fun t140 => ((turn_Less.f (wrap64 (1 + (Int.tmod (wrap64 (a0)) 1000))) bt131.1 bt131.2.1 bt131.2.2 bt128.1 bt128.2.1 bt128.2.2).bind fun t141 => (if (t140 == t141) = true then (remontoirlaw08_TurnOrder.j0 k (wrap64 (1 + (Int.tmod (wrap64 (a0)) 1000))) true bt128.1 bt128.2.1 bt128.2.2 bt131.1 bt131.2.1 bt131.2.2 bt134.1 bt134.2.1 bt134.2.2) else ((turn_Less.f (wrap64 (1 + (Int.tmod (wrap64 (a0)) 1000))) bt128.1 bt128.2.1 bt128.2.2 bt128.1 bt128.2.1 bt128.2.2).bind fun t142 => (remontoirlaw08_TurnOrder.j0 k (wrap64 (1 + (Int.tmod (wrap64 (a0)) 1000))) t142 bt128.1 bt128.2.1 bt128.2.2 bt131.1 bt131.2.1 bt131.2.2 bt134.1 bt134.2.1 bt134.2.2)))))))) = some r := h
  clear h
  replace H := Option.bind_eq_some_iff.mp H
  obtain ⟨⟨t128, t129, t130⟩, A30, H⟩ := H
  replace H : ((remontoirlaw08_job.f 2 a1_2 a1_3).bind fun bt131 => ((remontoirlaw08_job.f 3 a1_4 a1_5).bind fun bt134 => ((turn_Less.f (wrap64 (1 + (Int.tmod (wrap64 (a0)) 1000))) t128 t129 t130 bt131.1 bt131.2.1 bt131.2.2).bind fun t140 => ((turn_Less.f (wrap64 (1 + (Int.tmod (wrap64 (a0)) 1000))) bt131.1 bt131.2.1 bt131.2.2 t128 t129 t130).bind fun t141 => (if (t140 == t141) = true then (remontoirlaw08_TurnOrder.j0 k (wrap64 (1 + (Int.tmod (wrap64 (a0)) 1000))) true t128 t129 t130 bt131.1 bt131.2.1 bt131.2.2 bt134.1 bt134.2.1 bt134.2.2) else ((turn_Less.f (wrap64 (1 + (Int.tmod (wrap64 (a0)) 1000))) t128 t129 t130 t128 t129 t130).bind fun t142 => (remontoirlaw08_TurnOrder.j0 k (wrap64 (1 + (Int.tmod (wrap64 (a0)) 1000))) t142 t128 t129 t130 bt131.1 bt131.2.1 bt131.2.2 bt134.1 bt134.2.1 bt134.2.2))))))) = some r := H
  have A3 := Aside0.mk A30
  clear A30
  replace H := Option.bind_eq_some_iff.mp H
  obtain ⟨⟨t131, t132, t133⟩, A40, H⟩ := H
  replace H : ((remontoirlaw08_job.f 3 a1_4 a1_5).bind fun bt134 => ((turn_Less.f (wrap64 (1 + (Int.tmod (wrap64 (a0)) 1000))) t128 t129 t130 t131 t132 t133).bind fun t140 => ((turn_Less.f (wrap64 (1 + (Int.tmod (wrap64 (a0)) 1000))) t131 t132 t133 t128 t129 t130).bind fun t141 => (if (t140 == t141) = true then (remontoirlaw08_TurnOrder.j0 k (wrap64 (1 + (Int.tmod (wrap64 (a0)) 1000))) true t128 t129 t130 t131 t132 t133 bt134.1 bt134.2.1 bt134.2.2) else ((turn_Less.f (wrap64 (1 + (Int.tmod (wrap64 (a0)) 1000))) t128 t129 t130 t128 t129 t130).bind fun t142 => (remontoirlaw08_TurnOrder.j0 k (wrap64 (1 + (Int.tmod (wrap64 (a0)) 1000))) t142 t128 t129 t130 t131 t132 t133 bt134.1 bt134.2.1 bt134.2.2)))))) = some r := H
  have A4 := Aside0.mk A40
  clear A40
  replace H := Option.bind_eq_some_iff.mp H
  obtain ⟨⟨t134, t135, t136⟩, A50, H⟩ := H
  replace H : ((turn_Less.f (wrap64 (1 + (Int.tmod (wrap64 (a0)) 1000))) t128 t129 t130 t131 t132 t133).bind fun t140 => ((turn_Less.f (wrap64 (1 + (Int.tmod (wrap64 (a0)) 1000))) t131 t132 t133 t128 t129 t130).bind fun t141 => (if (t140 == t141) = true then (remontoirlaw08_TurnOrder.j0 k (wrap64 (1 + (Int.tmod (wrap64 (a0)) 1000))) true t128 t129 t130 t131 t132 t133 t134 t135 t136) else ((turn_Less.f (wrap64 (1 + (Int.tmod (wrap64 (a0)) 1000))) t128 t129 t130 t128 t129 t130).bind fun t142 => (remontoirlaw08_TurnOrder.j0 k (wrap64 (1 + (Int.tmod (wrap64 (a0)) 1000))) t142 t128 t129 t130 t131 t132 t133 t134 t135 t136))))) = some r := H
  have A5 := Aside0.mk A50
  clear A50
  have HC6 := Aside0.mk H
  clear H
  go_enter Try.func3, Try.ntmps3
  try go_wp2_with (first | ((with_reducible refine gate_dst (N := 3) rfl ?_); refine box_event ?hg (N := 3) ?hd (cs := #[.int .u16 a1_0, .int .u16 a1_1, .int .u16 a1_2, .int .u16 a1_3, .int .u16 a1_4, .int .u16 a1_5]) (t := 24) ?hr ?_; (case hd => rfl); (case hg => rfl); (case hr => first | (go_simp; done) | (go_simp; rfl)); intro gb127 hg w7 hbox hb; have n0_ := Aside0.mk (below_step (by repeat (first | (with_reducible first | exact HB.out | apply below_alloc | apply pw_below_drewN | apply below_drew1) | exact HB.out)) hb); have n1_ := Aside0.mk (hbox); have n2_ := Aside0.mk ((by rw [hg]; exact (below_size (by repeat (first | (with_reducible first | exact HB.out | apply below_alloc | apply pw_below_drewN | apply below_drew1) | exact HB.out))) : w.heap.size ≤ gb127)); have n3_ := Aside0.mk ((by rw [hg]; exact (below_size (by repeat (first | (with_reducible first | exact HB.out | apply below_alloc | apply pw_below_drewN | apply below_drew1) | exact HB.out))) : w.heap.size ≤ gb127)); clear HB; have HB := n0_; have BK127 := n1_; have GW127 := n2_; have GE127 := n3_; clear n0_ n1_ n2_ n3_; clear hb hbox hg))
  have n0_ := Aside0.mk (blk_drew BK127.out)
  have n1_ := Aside0.mk (below_drew1 HB.out)
  clear BK127
  clear HB
  have BK127 := n0_
  have HB := n1_
  clear n0_ n1_
  refine start_ (n := 15) (S := fun w' => True) (ds := []) #[false, false, false, false, false, false, false, false, false, false, false, false, false, false, false] (by kernel_rfl) rfl rfl trivial (fun hHeld => ?_); refine with_tabW remontoirlaw08_TurnOrder.tab2 remontoirlaw08_TurnOrder.bits2 (fun HT_ HW_ => ?_)
  generalize w7.drew = w8 at BK127 HB hHeld ⊢
  refine inv_at [0, 1, 2, 3, 4, 5, 6, 7, 8, 9, 10, 11, 12, 13, 14] (fun a0_ b a w' => ∃ (gb137 : Nat) (gb138 : Nat) (gb139 : Nat) (m9_ : Value) (m10_ : Value) (m11_ : Value), a = putSel a0_ b [(0, 13, .pointer (some ⟨gb127, 0, none⟩)), (1, 14, .agg #[.int .u16 a1_0, .int .u16 a1_1]), (2, 15, .agg #[.int .i64 t128, .int .i64 t129, .int .i64 t130]), (3, 16, .pointer (some ⟨gb127, 2, none⟩)), (4, 17, .agg #[.int .u16 a1_2, .int .u16 a1_3]), (5, 18, .agg #[.int .i64 t131, .int .i64 t132, .int .i64 t133]), (6, 19, .pointer (some ⟨gb127, 4, none⟩)), (7, 20, .agg #[.int .u16 a1_4, .int .u16 a1_5]), (8, 21, .agg #[.int .i64 t134, .int .i64 t135, .int .i64 t136]), (9, 6, m9_), (10, 7, m10_), (11, 8, m11_)] ∧ (w'.heap[gb127]? = some (.cells #[.int .u16 a1_0, .int .u16 a1_1, .int .u16 a1_2, .int .u16 a1_3, .int .u16 a1_4, .int .u16 a1_5] 24 (0, 0))) ∧ (Below w.heap.size w w') ∧ (b 9 = true → b 10 = true → gb138 ≠ gb137) ∧ (b 9 = true → b 10 = true → gb137 ≠ gb138) ∧ (b 9 = true → b 11 = true → gb139 ≠ gb137) ∧ (b 9 = true → b 11 = true → gb137 ≠ gb139) ∧ (b 10 = true → b 11 = true → gb139 ≠ gb138) ∧ (b 10 = true → b 11 = true → gb138 ≠ gb139) ∧ (b 9 = true → b 12 = false → w'.heap[gb137]? = some (.cells #[.int .i64 0, .int .i64 0, .int .i64 0] 26 (0, 0))) ∧ (b 9 = true → w.heap.size ≤ gb137) ∧ (b 9 = true → w.heap.size ≤ gb137) ∧ (b 9 = true → gb127 ≠ gb137) ∧ (b 9 = true → gb137 ≠ gb127) ∧ (b 10 = true → b 13 = false → w'.heap[gb138]? = some (.cells #[.int .i64 0, .int .i64 0, .int .i64 0] 26 (0, 0))) ∧ (b 10 = true → w.heap.size ≤ gb138) ∧ (b 10 = true → w.heap.size ≤ gb138) ∧ (b 10 = true → gb127 ≠ gb138) ∧ (b 10 = true → gb138 ≠ gb127) ∧ (b 11 = true → b 14 = false → w'.heap[gb139]? = some (.cells #[.int .i64 0, .int .i64 0, .int .i64 0] 26 (0, 0))) ∧ (b 11 = true → w.heap.size ≤ gb139) ∧ (b 11 = true → w.heap.size ≤ gb139) ∧ (b 11 = true → gb127 ≠ gb139) ∧ (b 11 = true → gb139 ≠ gb127) ∧ (b 12 = true → w'.heap[gb137]? = some (.cells #[.int .i64 t128, .int .i64 t129, .int .i64 t130] 26 (0, 0))) ∧ (b 13 = true → w'.heap[gb138]? = some (.cells #[.int .i64 t131, .int .i64 t132, .int .i64 t133] 26 (0, 0))) ∧ (b 14 = true → w'.heap[gb139]? = some (.cells #[.int .i64 t134, .int .i64 t135, .int .i64 t136] 26 (0, 0))) ∧ (b 9 = true → (m9_ : Value) = .pointer (some ⟨gb137, 0, none⟩)) ∧ (b 10 = true → (m10_ : Value) = .pointer (some ⟨gb138, 0, none⟩)) ∧ (b 11 = true → (m11_ : Value) = .pointer (some ⟨gb139, 0, none⟩))) HT_.out HW_.out (by kernel_rfl) (by kernel_rfl) ?_ ?_ ?_
  · exact ⟨0, 0, 0, .bool false, .bool false, .bool false, by simp only [putSel, Bool.false_eq_true, if_false], BK127.out, HB.out, fun h_ => absurd h_ (by decide), fun h_ => absurd h_ (by decide), fun h_ => absurd h_ (by decide), fun h_ => absurd h_ (by decide), fun h_ => absurd h_ (by decide), fun h_ => absurd h_ (by decide), fun h_ => absurd h_ (by decide), fun h_ => absurd h_ (by decide), fun h_ => absurd h_ (by decide), fun h_ => absurd h_ (by decide), fun h_ => absurd h_ (by decide), fun h_ => absurd h_ (by decide), fun h_ => absurd h_ (by decide), fun h_ => absurd h_ (by decide), fun h_ => absurd h_ (by decide), fun h_ => absurd h_ (by decide), fun h_ => absurd h_ (by decide), fun h_ => absurd h_ (by decide), fun h_ => absurd h_ (by decide), fun h_ => absurd h_ (by decide), fun h_ => absurd h_ (by decide), fun h_ => absurd h_ (by decide), fun h_ => absurd h_ (by decide), fun h_ => absurd h_ (by decide), fun h_ => absurd h_ (by decide), fun h_ => absurd h_ (by decide), fun h_ => absurd h_ (by decide)⟩
  · skip
    clear BK127 HB
    refine steps_cons ?_ ?_
    · rintro b a w' ⟨gb137, gb138, gb139, m9_, m10_, m11_, ha, Q_BK127, Q_HB, Q_NB138_137, Q_NB137_138, Q_NB139_137, Q_NB137_139, Q_NB139_138, Q_NB138_139, Q_BK137, Q_GW137, Q_GE137, Q_NB127_137, Q_NB137_127, Q_BK138, Q_GW138, Q_GE138, Q_NB127_138, Q_NB138_127, Q_BK139, Q_GW139, Q_GE139, Q_NB127_139, Q_NB139_127, Q_BK137_e12, Q_BK138_e13, Q_BK139_e14, Q_X9_, Q_X10_, Q_X11_⟩ hb_ hon hoff
      refine ⟨_, rfl, fun K hK => ?_⟩
      have e3 : a.tmps[3]? = some (.pointer (some ⟨gb127, 0, none⟩)) := by rw [ha]; exact (putSel_off rfl).trans rfl
      replace ha := Aside0.mk ha
      have BK127 := Aside0.mk Q_BK127
      have HB := Aside0.mk Q_HB
      refine value_ (w1 := w') (v := .pointer (some ⟨gb127, 0, none⟩)) (by rfl) rfl ?_ ?_
      · go_simp
        (try simp only [i64_w])
        try rfl
      refine hK.out _ _ ⟨gb137, gb138, gb139, m9_, m10_, m11_, (by rw [ha.out]; exact putSel_upk 0 hb_ rfl rfl rfl), Q_BK127, Q_HB, Q_NB138_137, Q_NB137_138, Q_NB139_137, Q_NB137_139, Q_NB139_138, Q_NB138_139, Q_BK137, Q_GW137, Q_GE137, Q_NB127_137, Q_NB137_127, Q_BK138, Q_GW138, Q_GE138, Q_NB127_138, Q_NB138_127, Q_BK139, Q_GW139, Q_GE139, Q_NB127_139, Q_NB139_127, fun h0_ => absurd ((hoff 12 (by kernel_rfl)).symm.trans h0_) (by decide), fun h0_ => absurd ((hoff 13 (by kernel_rfl)).symm.trans h0_) (by decide), fun h0_ => absurd ((hoff 14 (by kernel_rfl)).symm.trans h0_) (by decide), Q_X9_, Q_X10_, Q_X11_⟩
    refine steps_cons ?_ ?_
    · rintro b a w' ⟨gb137, gb138, gb139, m9_, m10_, m11_, ha, Q_BK127, Q_HB, Q_NB138_137, Q_NB137_138, Q_NB139_137, Q_NB137_139, Q_NB139_138, Q_NB138_139, Q_BK137, Q_GW137, Q_GE137, Q_NB127_137, Q_NB137_127, Q_BK138, Q_GW138, Q_GE138, Q_NB127_138, Q_NB138_127, Q_BK139, Q_GW139, Q_GE139, Q_NB127_139, Q_NB139_127, Q_BK137_e12, Q_BK138_e13, Q_BK139_e14, Q_X9_, Q_X10_, Q_X11_⟩ hb_ hon hoff
      refine ⟨_, rfl, fun K hK => ?_⟩
      have e13 : a.tmps[13]? = some (.pointer (some ⟨gb127, 0, none⟩)) := by rw [ha]; exact putSel_on (e := (0, 13, .pointer (some ⟨gb127, 0, none⟩))) 0 rfl rfl (hon 0 (by kernel_rfl)) rfl
      replace ha := Aside0.mk ha
      have BK127 := Aside0.mk Q_BK127
      have HB := Aside0.mk Q_HB
      have hc0_ : w'.cell? ⟨gb127, 0, none⟩ = some (.int .u16 a1_0) := (blk_cell BK127.out 0).trans rfl
      have hc1_ : w'.cell? ⟨gb127, 1, none⟩ = some (.int .u16 a1_1) := (blk_cell BK127.out 1).trans rfl
      have hc2_ : w'.cell? ⟨gb127, 2, none⟩ = some (.int .u16 a1_2) := (blk_cell BK127.out 2).trans rfl
      have hc3_ : w'.cell? ⟨gb127, 3, none⟩ = some (.int .u16 a1_3) := (blk_cell BK127.out 3).trans rfl
      have hc4_ : w'.cell? ⟨gb127, 4, none⟩ = some (.int .u16 a1_4) := (blk_cell BK127.out 4).trans rfl
      have hc5_ : w'.cell? ⟨gb127, 5, none⟩ = some (.int .u16 a1_5) := (blk_cell BK127.out 5).trans rfl
      refine value_ (w1 := w') (v := .agg #[.int .u16 a1_0, .int .u16 a1_1]) (by rfl) rfl ?_ ?_
      · go_simp
        (try simp only [i64_w])
        try rfl
      refine hK.out _ _ ⟨gb137, gb138, gb139, m9_, m10_, m11_, (by rw [ha.out]; exact putSel_upk 1 hb_ rfl rfl rfl), Q_BK127, Q_HB, Q_NB138_137, Q_NB137_138, Q_NB139_137, Q_NB137_139, Q_NB139_138, Q_NB138_139, Q_BK137, Q_GW137, Q_GE137, Q_NB127_137, Q_NB137_127, Q_BK138, Q_GW138, Q_GE138, Q_NB127_138, Q_NB138_127, Q_BK139, Q_GW139, Q_GE139, Q_NB127_139, Q_NB139_127, fun h0_ => absurd ((hoff 12 (by kernel_rfl)).symm.trans h0_) (by decide), fun h0_ => absurd ((hoff 13 (by kernel_rfl)).symm.trans h0_) (by decide), fun h0_ => absurd ((hoff 14 (by kernel_rfl)).symm.trans h0_) (by decide), Q_X9_, Q_X10_, Q_X11_⟩
    refine steps_cons ?_ ?_
    · rintro b a w' ⟨gb137, gb138, gb139, m9_, m10_, m11_, ha, Q_BK127, Q_HB, Q_NB138_137, Q_NB137_138, Q_NB139_137, Q_NB137_139, Q_NB139_138, Q_NB138_139, Q_BK137, Q_GW137, Q_GE137, Q_NB127_137, Q_NB137_127, Q_BK138, Q_GW138, Q_GE138, Q_NB127_138, Q_NB138_127, Q_BK139, Q_GW139, Q_GE139, Q_NB127_139, Q_NB139_127, Q_BK137_e12, Q_BK138_e13, Q_BK139_e14, Q_X9_, Q_X10_, Q_X11_⟩ hb_ hon hoff
      refine ⟨_, rfl, fun K hK => ?_⟩
      have e14 : a.tmps[14]? = some (.agg #[.int .u16 a1_0, .int .u16 a1_1]) := by rw [ha]; exact putSel_on (e := (1, 14, .agg #[.int .u16 a1_0, .int .u16 a1_1])) 1 rfl rfl (hon 1 (by kernel_rfl)) rfl
      replace ha := Aside0.mk ha
      have BK127 := Aside0.mk Q_BK127
      have HB := Aside0.mk Q_HB
      refine goes_ Try.func8 (by kernel_rfl) rfl #[.int .i64 1, .agg #[.int .u16 a1_0, .int .u16 a1_1]] (by rfl) rfl rfl (by first | (simp only [List.map_toArray, List.map_cons, List.map_nil, Act.eval, Array.getD_eq_getD_getElem?, Option.getD_some, e14]; done) | (simp only [List.map_toArray, List.map_cons, List.map_nil, Act.eval, Array.getD_eq_getD_getElem?, Option.getD_some, e14]; rfl)) ?_
      with_reducible refine (remontoirlaw08_job.calls 1 a1_0 a1_1 t128 t129 t130 _ A3.out).mono ?_
      rintro e w9 ⟨rfl, hb⟩
      refine ⟨_, rfl, ?_⟩
      have n0_ := Aside0.mk (blk_below (g := gb127) (o := .cells #[.int .u16 a1_0, .int .u16 a1_1, .int .u16 a1_2, .int .u16 a1_3, .int .u16 a1_4, .int .u16 a1_5] 24 (0, 0)) (by (with_reducible repeat (first | refine blk_drewN ?_ _ | refine blk_drew ?_ | refine blk_alloc ?_ _)); exact BK127.out) hb)
      have n1_ := Aside0.mk (below_step (by repeat (first | (with_reducible first | exact HB.out | apply below_alloc | apply pw_below_drewN | apply below_drew1 | refine below_set ?_ GE127.out) | exact HB.out)) hb)
      have z_BK137 := fun (h0_ : b 9 = true) (h1_ : b 12 = false) => (show w9.heap[gb137]? = some (.cells #[.int .i64 0, .int .i64 0, .int .i64 0] 26 (0, 0)) from by first | exact (blk_below (g := gb137) (o := .cells #[.int .i64 0, .int .i64 0, .int .i64 0] 26 (0, 0)) (by (with_reducible repeat (first | refine blk_drewN ?_ _ | refine blk_drew ?_ | refine blk_alloc ?_ _)); exact (Q_BK137 h0_ h1_)) hb))
      have z_BK138 := fun (h0_ : b 10 = true) (h1_ : b 13 = false) => (show w9.heap[gb138]? = some (.cells #[.int .i64 0, .int .i64 0, .int .i64 0] 26 (0, 0)) from by first | exact (blk_below (g := gb138) (o := .cells #[.int .i64 0, .int .i64 0, .int .i64 0] 26 (0, 0)) (by (with_reducible repeat (first | refine blk_drewN ?_ _ | refine blk_drew ?_ | refine blk_alloc ?_ _)); exact (Q_BK138 h0_ h1_)) hb))
      have z_BK139 := fun (h0_ : b 11 = true) (h1_ : b 14 = false) => (show w9.heap[gb139]? = some (.cells #[.int .i64 0, .int .i64 0, .int .i64 0] 26 (0, 0)) from by first | exact (blk_below (g := gb139) (o := .cells #[.int .i64 0, .int .i64 0, .int .i64 0] 26 (0, 0)) (by (with_reducible repeat (first | refine blk_drewN ?_ _ | refine blk_drew ?_ | refine blk_alloc ?_ _)); exact (Q_BK139 h0_ h1_)) hb))
      clear BK127
      clear HB
      have BK127 := n0_
      have HB := n1_
      clear n0_ n1_
      (try clear hb)
      (try clear hb2)
      (try clear hk)
      (try clear hi)
      refine hK.out _ _ ⟨gb137, gb138, gb139, m9_, m10_, m11_, (by rw [ha.out]; exact putSel_upk 2 hb_ rfl rfl rfl), (by (with_reducible repeat (first | refine blk_drewN ?_ _ | refine blk_drew ?_ | refine blk_alloc ?_ _)); exact BK127.out), (by repeat (first | (with_reducible first | exact HB.out | apply below_alloc | apply pw_below_drewN | apply below_drew1 | refine below_set ?_ GE127.out) | exact HB.out)), Q_NB138_137, Q_NB137_138, Q_NB139_137, Q_NB137_139, Q_NB139_138, Q_NB138_139, z_BK137, Q_GW137, Q_GE137, Q_NB127_137, Q_NB137_127, z_BK138, Q_GW138, Q_GE138, Q_NB127_138, Q_NB138_127, z_BK139, Q_GW139, Q_GE139, Q_NB127_139, Q_NB139_127, fun h0_ => absurd ((hoff 12 (by kernel_rfl)).symm.trans h0_) (by decide), fun h0_ => absurd ((hoff 13 (by kernel_rfl)).symm.trans h0_) (by decide), fun h0_ => absurd ((hoff 14 (by kernel_rfl)).symm.trans h0_) (by decide), Q_X9_, Q_X10_, Q_X11_⟩
    refine steps_cons ?_ ?_
    · rintro b a w' ⟨gb137, gb138, gb139, m9_, m10_, m11_, ha, Q_BK127, Q_HB, Q_NB138_137, Q_NB137_138, Q_NB139_137, Q_NB137_139, Q_NB139_138, Q_NB138_139, Q_BK137, Q_GW137, Q_GE137, Q_NB127_137, Q_NB137_127, Q_BK138, Q_GW138, Q_GE138, Q_NB127_138, Q_NB138_127, Q_BK139, Q_GW139, Q_GE139, Q_NB127_139, Q_NB139_127, Q_BK137_e12, Q_BK138_e13, Q_BK139_e14, Q_X9_, Q_X10_, Q_X11_⟩ hb_ hon hoff
      refine ⟨_, rfl, fun K hK => ?_⟩
      have e3 : a.tmps[3]? = some (.pointer (some ⟨gb127, 0, none⟩)) := by rw [ha]; exact (putSel_off rfl).trans rfl
      replace ha := Aside0.mk ha
      have BK127 := Aside0.mk Q_BK127
      have HB := Aside0.mk Q_HB
      refine value_ (w1 := w') (v := .pointer (some ⟨gb127, 2, none⟩)) (by rfl) rfl ?_ ?_
      · go_simp
        (try simp only [i64_w])
        try rfl
      refine hK.out _ _ ⟨gb137, gb138, gb139, m9_, m10_, m11_, (by rw [ha.out]; exact putSel_upk 3 hb_ rfl rfl rfl), Q_BK127, Q_HB, Q_NB138_137, Q_NB137_138, Q_NB139_137, Q_NB137_139, Q_NB139_138, Q_NB138_139, Q_BK137, Q_GW137, Q_GE137, Q_NB127_137, Q_NB137_127, Q_BK138, Q_GW138, Q_GE138, Q_NB127_138, Q_NB138_127, Q_BK139, Q_GW139, Q_GE139, Q_NB127_139, Q_NB139_127, fun h0_ => absurd ((hoff 12 (by kernel_rfl)).symm.trans h0_) (by decide), fun h0_ => absurd ((hoff 13 (by kernel_rfl)).symm.trans h0_) (by decide), fun h0_ => absurd ((hoff 14 (by kernel_rfl)).symm.trans h0_) (by decide), Q_X9_, Q_X10_, Q_X11_⟩
    refine steps_cons ?_ ?_
    · rintro b a w' ⟨gb137, gb138, gb139, m9_, m10_, m11_, ha, Q_BK127, Q_HB, Q_NB138_137, Q_NB137_138, Q_NB139_137, Q_NB137_139, Q_NB139_138, Q_NB138_139, Q_BK137, Q_GW137, Q_GE137, Q_NB127_137, Q_NB137_127, Q_BK138, Q_GW138, Q_GE138, Q_NB127_138, Q_NB138_127, Q_BK139, Q_GW139, Q_GE139, Q_NB127_139, Q_NB139_127, Q_BK137_e12, Q_BK138_e13, Q_BK139_e14, Q_X9_, Q_X10_, Q_X11_⟩ hb_ hon hoff
      refine ⟨_, rfl, fun K hK => ?_⟩
      have e16 : a.tmps[16]? = some (.pointer (some ⟨gb127, 2, none⟩)) := by rw [ha]; exact putSel_on (e := (3, 16, .pointer (some ⟨gb127, 2, none⟩))) 3 rfl rfl (hon 3 (by kernel_rfl)) rfl
      replace ha := Aside0.mk ha
      have BK127 := Aside0.mk Q_BK127
      have HB := Aside0.mk Q_HB
      have hc0_ : w'.cell? ⟨gb127, 0, none⟩ = some (.int .u16 a1_0) := (blk_cell BK127.out 0).trans rfl
      have hc1_ : w'.cell? ⟨gb127, 1, none⟩ = some (.int .u16 a1_1) := (blk_cell BK127.out 1).trans rfl
      have hc2_ : w'.cell? ⟨gb127, 2, none⟩ = some (.int .u16 a1_2) := (blk_cell BK127.out 2).trans rfl
      have hc3_ : w'.cell? ⟨gb127, 3, none⟩ = some (.int .u16 a1_3) := (blk_cell BK127.out 3).trans rfl
      have hc4_ : w'.cell? ⟨gb127, 4, none⟩ = some (.int .u16 a1_4) := (blk_cell BK127.out 4).trans rfl
      have hc5_ : w'.cell? ⟨gb127, 5, none⟩ = some (.int .u16 a1_5) := (blk_cell BK127.out 5).trans rfl
      refine value_ (w1 := w') (v := .agg #[.int .u16 a1_2, .int .u16 a1_3]) (by rfl) rfl ?_ ?_
      · go_simp
        (try simp only [i64_w])
        try rfl
      refine hK.out _ _ ⟨gb137, gb138, gb139, m9_, m10_, m11_, (by rw [ha.out]; exact putSel_upk 4 hb_ rfl rfl rfl), Q_BK127, Q_HB, Q_NB138_137, Q_NB137_138, Q_NB139_137, Q_NB137_139, Q_NB139_138, Q_NB138_139, Q_BK137, Q_GW137, Q_GE137, Q_NB127_137, Q_NB137_127, Q_BK138, Q_GW138, Q_GE138, Q_NB127_138, Q_NB138_127, Q_BK139, Q_GW139, Q_GE139, Q_NB127_139, Q_NB139_127, fun h0_ => absurd ((hoff 12 (by kernel_rfl)).symm.trans h0_) (by decide), fun h0_ => absurd ((hoff 13 (by kernel_rfl)).symm.trans h0_) (by decide), fun h0_ => absurd ((hoff 14 (by kernel_rfl)).symm.trans h0_) (by decide), Q_X9_, Q_X10_, Q_X11_⟩
    refine steps_cons ?_ ?_
    · rintro b a w' ⟨gb137, gb138, gb139, m9_, m10_, m11_, ha, Q_BK127, Q_HB, Q_NB138_137, Q_NB137_138, Q_NB139_137, Q_NB137_139, Q_NB139_138, Q_NB138_139, Q_BK137, Q_GW137, Q_GE137, Q_NB127_137, Q_NB137_127, Q_BK138, Q_GW138, Q_GE138, Q_NB127_138, Q_NB138_127, Q_BK139, Q_GW139, Q_GE139, Q_NB127_139, Q_NB139_127, Q_BK137_e12, Q_BK138_e13, Q_BK139_e14, Q_X9_, Q_X10_, Q_X11_⟩ hb_ hon hoff
      refine ⟨_, rfl, fun K hK => ?_⟩
      have e17 : a.tmps[17]? = some (.agg #[.int .u16 a1_2, .int .u16 a1_3]) := by rw [ha]; exact putSel_on (e := (4, 17, .agg #[.int .u16 a1_2, .int .u16 a1_3])) 4 rfl rfl (hon 4 (by kernel_rfl)) rfl
      replace ha := Aside0.mk ha
      have BK127 := Aside0.mk Q_BK127
      have HB := Aside0.mk Q_HB
      refine goes_ Try.func8 (by kernel_rfl) rfl #[.int .i64 2, .agg #[.int .u16 a1_2, .int .u16 a1_3]] (by rfl) rfl rfl (by first | (simp only [List.map_toArray, List.map_cons, List.map_nil, Act.eval, Array.getD_eq_getD_getElem?, Option.getD_some, e17]; done) | (simp only [List.map_toArray, List.map_cons, List.map_nil, Act.eval, Array.getD_eq_getD_getElem?, Option.getD_some, e17]; rfl)) ?_
      with_reducible refine (remontoirlaw08_job.calls 2 a1_2 a1_3 t131 t132 t133 _ A4.out).mono ?_
      rintro e w11 ⟨rfl, hb⟩
      refine ⟨_, rfl, ?_⟩
      have n0_ := Aside0.mk (blk_below (g := gb127) (o := .cells #[.int .u16 a1_0, .int .u16 a1_1, .int .u16 a1_2, .int .u16 a1_3, .int .u16 a1_4, .int .u16 a1_5] 24 (0, 0)) (by (with_reducible repeat (first | refine blk_drewN ?_ _ | refine blk_drew ?_ | refine blk_alloc ?_ _)); exact BK127.out) hb)
      have n1_ := Aside0.mk (below_step (by repeat (first | (with_reducible first | exact HB.out | apply below_alloc | apply pw_below_drewN | apply below_drew1 | refine below_set ?_ GE127.out) | exact HB.out)) hb)
      have z_BK137 := fun (h0_ : b 9 = true) (h1_ : b 12 = false) => (show w11.heap[gb137]? = some (.cells #[.int .i64 0, .int .i64 0, .int .i64 0] 26 (0, 0)) from by first | exact (blk_below (g := gb137) (o := .cells #[.int .i64 0, .int .i64 0, .int .i64 0] 26 (0, 0)) (by (with_reducible repeat (first | refine blk_drewN ?_ _ | refine blk_drew ?_ | refine blk_alloc ?_ _)); exact (Q_BK137 h0_ h1_)) hb))
      have z_BK138 := fun (h0_ : b 10 = true) (h1_ : b 13 = false) => (show w11.heap[gb138]? = some (.cells #[.int .i64 0, .int .i64 0, .int .i64 0] 26 (0, 0)) from by first | exact (blk_below (g := gb138) (o := .cells #[.int .i64 0, .int .i64 0, .int .i64 0] 26 (0, 0)) (by (with_reducible repeat (first | refine blk_drewN ?_ _ | refine blk_drew ?_ | refine blk_alloc ?_ _)); exact (Q_BK138 h0_ h1_)) hb))
      have z_BK139 := fun (h0_ : b 11 = true) (h1_ : b 14 = false) => (show w11.heap[gb139]? = some (.cells #[.int .i64 0, .int .i64 0, .int .i64 0] 26 (0, 0)) from by first | exact (blk_below (g := gb139) (o := .cells #[.int .i64 0, .int .i64 0, .int .i64 0] 26 (0, 0)) (by (with_reducible repeat (first | refine blk_drewN ?_ _ | refine blk_drew ?_ | refine blk_alloc ?_ _)); exact (Q_BK139 h0_ h1_)) hb))
      clear BK127
      clear HB
      have BK127 := n0_
      have HB := n1_
      clear n0_ n1_
      (try clear hb)
      (try clear hb2)
      (try clear hk)
      (try clear hi)
      refine hK.out _ _ ⟨gb137, gb138, gb139, m9_, m10_, m11_, (by rw [ha.out]; exact putSel_upk 5 hb_ rfl rfl rfl), (by (with_reducible repeat (first | refine blk_drewN ?_ _ | refine blk_drew ?_ | refine blk_alloc ?_ _)); exact BK127.out), (by repeat (first | (with_reducible first | exact HB.out | apply below_alloc | apply pw_below_drewN | apply below_drew1 | refine below_set ?_ GE127.out) | exact HB.out)), Q_NB138_137, Q_NB137_138, Q_NB139_137, Q_NB137_139, Q_NB139_138, Q_NB138_139, z_BK137, Q_GW137, Q_GE137, Q_NB127_137, Q_NB137_127, z_BK138, Q_GW138, Q_GE138, Q_NB127_138, Q_NB138_127, z_BK139, Q_GW139, Q_GE139, Q_NB127_139, Q_NB139_127, fun h0_ => absurd ((hoff 12 (by kernel_rfl)).symm.trans h0_) (by decide), fun h0_ => absurd ((hoff 13 (by kernel_rfl)).symm.trans h0_) (by decide), fun h0_ => absurd ((hoff 14 (by kernel_rfl)).symm.trans h0_) (by decide), Q_X9_, Q_X10_, Q_X11_⟩
    refine steps_cons ?_ ?_
    · rintro b a w' ⟨gb137, gb138, gb139, m9_, m10_, m11_, ha, Q_BK127, Q_HB, Q_NB138_137, Q_NB137_138, Q_NB139_137, Q_NB137_139, Q_NB139_138, Q_NB138_139, Q_BK137, Q_GW137, Q_GE137, Q_NB127_137, Q_NB137_127, Q_BK138, Q_GW138, Q_GE138, Q_NB127_138, Q_NB138_127, Q_BK139, Q_GW139, Q_GE139, Q_NB127_139, Q_NB139_127, Q_BK137_e12, Q_BK138_e13, Q_BK139_e14, Q_X9_, Q_X10_, Q_X11_⟩ hb_ hon hoff
      refine ⟨_, rfl, fun K hK => ?_⟩
      have e3 : a.tmps[3]? = some (.pointer (some ⟨gb127, 0, none⟩)) := by rw [ha]; exact (putSel_off rfl).trans rfl
      replace ha := Aside0.mk ha
      have BK127 := Aside0.mk Q_BK127
      have HB := Aside0.mk Q_HB
      refine value_ (w1 := w') (v := .pointer (some ⟨gb127, 4, none⟩)) (by rfl) rfl ?_ ?_
      · go_simp
        (try simp only [i64_w])
        try rfl
      refine hK.out _ _ ⟨gb137, gb138, gb139, m9_, m10_, m11_, (by rw [ha.out]; exact putSel_upk 6 hb_ rfl rfl rfl), Q_BK127, Q_HB, Q_NB138_137, Q_NB137_138, Q_NB139_137, Q_NB137_139, Q_NB139_138, Q_NB138_139, Q_BK137, Q_GW137, Q_GE137, Q_NB127_137, Q_NB137_127, Q_BK138, Q_GW138, Q_GE138, Q_NB127_138, Q_NB138_127, Q_BK139, Q_GW139, Q_GE139, Q_NB127_139, Q_NB139_127, fun h0_ => absurd ((hoff 12 (by kernel_rfl)).symm.trans h0_) (by decide), fun h0_ => absurd ((hoff 13 (by kernel_rfl)).symm.trans h0_) (by decide), fun h0_ => absurd ((hoff 14 (by kernel_rfl)).symm.trans h0_) (by decide), Q_X9_, Q_X10_, Q_X11_⟩
    refine steps_cons ?_ ?_
    · rintro b a w' ⟨gb137, gb138, gb139, m9_, m10_, m11_, ha, Q_BK127, Q_HB, Q_NB138_137, Q_NB137_138, Q_NB139_137, Q_NB137_139, Q_NB139_138, Q_NB138_139, Q_BK137, Q_GW137, Q_GE137, Q_NB127_137, Q_NB137_127, Q_BK138, Q_GW138, Q_GE138, Q_NB127_138, Q_NB138_127, Q_BK139, Q_GW139, Q_GE139, Q_NB127_139, Q_NB139_127, Q_BK137_e12, Q_BK138_e13, Q_BK139_e14, Q_X9_, Q_X10_, Q_X11_⟩ hb_ hon hoff
      refine ⟨_, rfl, fun K hK => ?_⟩
      have e19 : a.tmps[19]? = some (.pointer (some ⟨gb127, 4, none⟩)) := by rw [ha]; exact putSel_on (e := (6, 19, .pointer (some ⟨gb127, 4, none⟩))) 6 rfl rfl (hon 6 (by kernel_rfl)) rfl
      replace ha := Aside0.mk ha
      have BK127 := Aside0.mk Q_BK127
      have HB := Aside0.mk Q_HB
      have hc0_ : w'.cell? ⟨gb127, 0, none⟩ = some (.int .u16 a1_0) := (blk_cell BK127.out 0).trans rfl
      have hc1_ : w'.cell? ⟨gb127, 1, none⟩ = some (.int .u16 a1_1) := (blk_cell BK127.out 1).trans rfl
      have hc2_ : w'.cell? ⟨gb127, 2, none⟩ = some (.int .u16 a1_2) := (blk_cell BK127.out 2).trans rfl
      have hc3_ : w'.cell? ⟨gb127, 3, none⟩ = some (.int .u16 a1_3) := (blk_cell BK127.out 3).trans rfl
      have hc4_ : w'.cell? ⟨gb127, 4, none⟩ = some (.int .u16 a1_4) := (blk_cell BK127.out 4).trans rfl
      have hc5_ : w'.cell? ⟨gb127, 5, none⟩ = some (.int .u16 a1_5) := (blk_cell BK127.out 5).trans rfl
      refine value_ (w1 := w') (v := .agg #[.int .u16 a1_4, .int .u16 a1_5]) (by rfl) rfl ?_ ?_
      · go_simp
        (try simp only [i64_w])
        try rfl
      refine hK.out _ _ ⟨gb137, gb138, gb139, m9_, m10_, m11_, (by rw [ha.out]; exact putSel_upk 7 hb_ rfl rfl rfl), Q_BK127, Q_HB, Q_NB138_137, Q_NB137_138, Q_NB139_137, Q_NB137_139, Q_NB139_138, Q_NB138_139, Q_BK137, Q_GW137, Q_GE137, Q_NB127_137, Q_NB137_127, Q_BK138, Q_GW138, Q_GE138, Q_NB127_138, Q_NB138_127, Q_BK139, Q_GW139, Q_GE139, Q_NB127_139, Q_NB139_127, fun h0_ => absurd ((hoff 12 (by kernel_rfl)).symm.trans h0_) (by decide), fun h0_ => absurd ((hoff 13 (by kernel_rfl)).symm.trans h0_) (by decide), fun h0_ => absurd ((hoff 14 (by kernel_rfl)).symm.trans h0_) (by decide), Q_X9_, Q_X10_, Q_X11_⟩
    refine steps_cons ?_ ?_
    · rintro b a w' ⟨gb137, gb138, gb139, m9_, m10_, m11_, ha, Q_BK127, Q_HB, Q_NB138_137, Q_NB137_138, Q_NB139_137, Q_NB137_139, Q_NB139_138, Q_NB138_139, Q_BK137, Q_GW137, Q_GE137, Q_NB127_137, Q_NB137_127, Q_BK138, Q_GW138, Q_GE138, Q_NB127_138, Q_NB138_127, Q_BK139, Q_GW139, Q_GE139, Q_NB127_139, Q_NB139_127, Q_BK137_e12, Q_BK138_e13, Q_BK139_e14, Q_X9_, Q_X10_, Q_X11_⟩ hb_ hon hoff
      refine ⟨_, rfl, fun K hK => ?_⟩
      have e20 : a.tmps[20]? = some (.agg #[.int .u16 a1_4, .int .u16 a1_5]) := by rw [ha]; exact putSel_on (e := (7, 20, .agg #[.int .u16 a1_4, .int .u16 a1_5])) 7 rfl rfl (hon 7 (by kernel_rfl)) rfl
      replace ha := Aside0.mk ha
      have BK127 := Aside0.mk Q_BK127
      have HB := Aside0.mk Q_HB
      refine goes_ Try.func8 (by kernel_rfl) rfl #[.int .i64 3, .agg #[.int .u16 a1_4, .int .u16 a1_5]] (by rfl) rfl rfl (by first | (simp only [List.map_toArray, List.map_cons, List.map_nil, Act.eval, Array.getD_eq_getD_getElem?, Option.getD_some, e20]; done) | (simp only [List.map_toArray, List.map_cons, List.map_nil, Act.eval, Array.getD_eq_getD_getElem?, Option.getD_some, e20]; rfl)) ?_
      with_reducible refine (remontoirlaw08_job.calls 3 a1_4 a1_5 t134 t135 t136 _ A5.out).mono ?_
      rintro e w12 ⟨rfl, hb⟩
      refine ⟨_, rfl, ?_⟩
      have n0_ := Aside0.mk (blk_below (g := gb127) (o := .cells #[.int .u16 a1_0, .int .u16 a1_1, .int .u16 a1_2, .int .u16 a1_3, .int .u16 a1_4, .int .u16 a1_5] 24 (0, 0)) (by (with_reducible repeat (first | refine blk_drewN ?_ _ | refine blk_drew ?_ | refine blk_alloc ?_ _)); exact BK127.out) hb)
      have n1_ := Aside0.mk (below_step (by repeat (first | (with_reducible first | exact HB.out | apply below_alloc | apply pw_below_drewN | apply below_drew1 | refine below_set ?_ GE127.out) | exact HB.out)) hb)
      have z_BK137 := fun (h0_ : b 9 = true) (h1_ : b 12 = false) => (show w12.heap[gb137]? = some (.cells #[.int .i64 0, .int .i64 0, .int .i64 0] 26 (0, 0)) from by first | exact (blk_below (g := gb137) (o := .cells #[.int .i64 0, .int .i64 0, .int .i64 0] 26 (0, 0)) (by (with_reducible repeat (first | refine blk_drewN ?_ _ | refine blk_drew ?_ | refine blk_alloc ?_ _)); exact (Q_BK137 h0_ h1_)) hb))
      have z_BK138 := fun (h0_ : b 10 = true) (h1_ : b 13 = false) => (show w12.heap[gb138]? = some (.cells #[.int .i64 0, .int .i64 0, .int .i64 0] 26 (0, 0)) from by first | exact (blk_below (g := gb138) (o := .cells #[.int .i64 0, .int .i64 0, .int .i64 0] 26 (0, 0)) (by (with_reducible repeat (first | refine blk_drewN ?_ _ | refine blk_drew ?_ | refine blk_alloc ?_ _)); exact (Q_BK138 h0_ h1_)) hb))
      have z_BK139 := fun (h0_ : b 11 = true) (h1_ : b 14 = false) => (show w12.heap[gb139]? = some (.cells #[.int .i64 0, .int .i64 0, .int .i64 0] 26 (0, 0)) from by first | exact (blk_below (g := gb139) (o := .cells #[.int .i64 0, .int .i64 0, .int .i64 0] 26 (0, 0)) (by (with_reducible repeat (first | refine blk_drewN ?_ _ | refine blk_drew ?_ | refine blk_alloc ?_ _)); exact (Q_BK139 h0_ h1_)) hb))
      clear BK127
      clear HB
      have BK127 := n0_
      have HB := n1_
      clear n0_ n1_
      (try clear hb)
      (try clear hb2)
      (try clear hk)
      (try clear hi)
      refine hK.out _ _ ⟨gb137, gb138, gb139, m9_, m10_, m11_, (by rw [ha.out]; exact putSel_upk 8 hb_ rfl rfl rfl), (by (with_reducible repeat (first | refine blk_drewN ?_ _ | refine blk_drew ?_ | refine blk_alloc ?_ _)); exact BK127.out), (by repeat (first | (with_reducible first | exact HB.out | apply below_alloc | apply pw_below_drewN | apply below_drew1 | refine below_set ?_ GE127.out) | exact HB.out)), Q_NB138_137, Q_NB137_138, Q_NB139_137, Q_NB137_139, Q_NB139_138, Q_NB138_139, z_BK137, Q_GW137, Q_GE137, Q_NB127_137, Q_NB137_127, z_BK138, Q_GW138, Q_GE138, Q_NB127_138, Q_NB138_127, z_BK139, Q_GW139, Q_GE139, Q_NB127_139, Q_NB139_127, fun h0_ => absurd ((hoff 12 (by kernel_rfl)).symm.trans h0_) (by decide), fun h0_ => absurd ((hoff 13 (by kernel_rfl)).symm.trans h0_) (by decide), fun h0_ => absurd ((hoff 14 (by kernel_rfl)).symm.trans h0_) (by decide), Q_X9_, Q_X10_, Q_X11_⟩
    refine steps_cons ?_ ?_
    · rintro b a w' ⟨gb137, gb138, gb139, m9_, m10_, m11_, ha, Q_BK127, Q_HB, Q_NB138_137, Q_NB137_138, Q_NB139_137, Q_NB137_139, Q_NB139_138, Q_NB138_139, Q_BK137, Q_GW137, Q_GE137, Q_NB127_137, Q_NB137_127, Q_BK138, Q_GW138, Q_GE138, Q_NB127_138, Q_NB138_127, Q_BK139, Q_GW139, Q_GE139, Q_NB127_139, Q_NB139_127, Q_BK137_e12, Q_BK138_e13, Q_BK139_e14, Q_X9_, Q_X10_, Q_X11_⟩ hb_ hon hoff
      refine ⟨_, rfl, fun K hK => ?_⟩
      replace ha := Aside0.mk ha
      have BK127 := Aside0.mk Q_BK127
      have HB := Aside0.mk Q_HB
      refine box_step ?hg (N := 6) ?hd (cs := #[.int .i64 0, .int .i64 0, .int .i64 0]) (t := 26) ?hr ?_; (case hd => rfl); (case hg => rfl); (case hr => first | (go_simp; done) | (go_simp; rfl))
      intro gb137 hg w9 hbox hb
      have n0_ := Aside0.mk (blk_below (g := gb127) (o := .cells #[.int .u16 a1_0, .int .u16 a1_1, .int .u16 a1_2, .int .u16 a1_3, .int .u16 a1_4, .int .u16 a1_5] 24 (0, 0)) (by (with_reducible repeat (first | refine blk_drewN ?_ _ | refine blk_drew ?_ | refine blk_alloc ?_ _)); exact BK127.out) hb)
      have n1_ := Aside0.mk (below_step (by repeat (first | (with_reducible first | exact HB.out | apply below_alloc | apply pw_below_drewN | apply below_drew1 | refine below_set ?_ GE127.out) | exact HB.out)) hb)
      have n2_ := Aside0.mk (hbox)
      have n3_ := Aside0.mk ((by rw [hg]; exact (below_size (by repeat (first | (with_reducible first | exact HB.out | apply below_alloc | apply pw_below_drewN | apply below_drew1 | refine below_set ?_ GE127.out) | exact HB.out))) : w.heap.size ≤ gb137))
      have n4_ := Aside0.mk ((by rw [hg]; exact (below_size (by repeat (first | (with_reducible first | exact HB.out | apply below_alloc | apply pw_below_drewN | apply below_drew1 | refine below_set ?_ GE127.out) | exact HB.out))) : w.heap.size ≤ gb137))
      have n5_ := Aside0.mk ((by rw [hg]; exact Nat.ne_of_lt (blk_lt (g := gb127) (o := .cells #[.int .u16 a1_0, .int .u16 a1_1, .int .u16 a1_2, .int .u16 a1_3, .int .u16 a1_4, .int .u16 a1_5] 24 (0, 0)) (by (with_reducible repeat (first | refine blk_drewN ?_ _ | refine blk_drew ?_ | refine blk_alloc ?_ _)); exact BK127.out)) : gb127 ≠ gb137))
      have n6_ := Aside0.mk ((by rw [hg]; exact Nat.ne_of_gt (blk_lt (g := gb127) (o := .cells #[.int .u16 a1_0, .int .u16 a1_1, .int .u16 a1_2, .int .u16 a1_3, .int .u16 a1_4, .int .u16 a1_5] 24 (0, 0)) (by (with_reducible repeat (first | refine blk_drewN ?_ _ | refine blk_drew ?_ | refine blk_alloc ?_ _)); exact BK127.out)) : gb137 ≠ gb127))
      have z_NB138_137 := fun (h0_ : up b 9 9 = true) (h1_ : up b 9 10 = true) => (show gb138 ≠ gb137 from ((by rw [hg]; exact Nat.ne_of_lt (blk_lt (g := gb138) (o := .cells #[.int .i64 0, .int .i64 0, .int .i64 0] 26 (0, 0)) (by (with_reducible repeat (first | refine blk_drewN ?_ _ | refine blk_drew ?_ | refine blk_alloc ?_ _)); exact (Q_BK138 (show b 10 = true from h1_) (hoff 13 (by kernel_rfl))))) : gb138 ≠ gb137)))
      have z_NB137_138 := fun (h0_ : up b 9 9 = true) (h1_ : up b 9 10 = true) => (show gb137 ≠ gb138 from ((by rw [hg]; exact Nat.ne_of_gt (blk_lt (g := gb138) (o := .cells #[.int .i64 0, .int .i64 0, .int .i64 0] 26 (0, 0)) (by (with_reducible repeat (first | refine blk_drewN ?_ _ | refine blk_drew ?_ | refine blk_alloc ?_ _)); exact (Q_BK138 (show b 10 = true from h1_) (hoff 13 (by kernel_rfl))))) : gb137 ≠ gb138)))
      have z_NB139_137 := fun (h0_ : up b 9 9 = true) (h1_ : up b 9 11 = true) => (show gb139 ≠ gb137 from ((by rw [hg]; exact Nat.ne_of_lt (blk_lt (g := gb139) (o := .cells #[.int .i64 0, .int .i64 0, .int .i64 0] 26 (0, 0)) (by (with_reducible repeat (first | refine blk_drewN ?_ _ | refine blk_drew ?_ | refine blk_alloc ?_ _)); exact (Q_BK139 (show b 11 = true from h1_) (hoff 14 (by kernel_rfl))))) : gb139 ≠ gb137)))
      have z_NB137_139 := fun (h0_ : up b 9 9 = true) (h1_ : up b 9 11 = true) => (show gb137 ≠ gb139 from ((by rw [hg]; exact Nat.ne_of_gt (blk_lt (g := gb139) (o := .cells #[.int .i64 0, .int .i64 0, .int .i64 0] 26 (0, 0)) (by (with_reducible repeat (first | refine blk_drewN ?_ _ | refine blk_drew ?_ | refine blk_alloc ?_ _)); exact (Q_BK139 (show b 11 = true from h1_) (hoff 14 (by kernel_rfl))))) : gb137 ≠ gb139)))
      have z_BK138 := fun (h0_ : b 10 = true) (h1_ : b 13 = false) => (show w9.heap[gb138]? = some (.cells #[.int .i64 0, .int .i64 0, .int .i64 0] 26 (0, 0)) from by first | exact (blk_below (g := gb138) (o := .cells #[.int .i64 0, .int .i64 0, .int .i64 0] 26 (0, 0)) (by (with_reducible repeat (first | refine blk_drewN ?_ _ | refine blk_drew ?_ | refine blk_alloc ?_ _)); exact (Q_BK138 h0_ h1_)) hb))
      have z_BK139 := fun (h0_ : b 11 = true) (h1_ : b 14 = false) => (show w9.heap[gb139]? = some (.cells #[.int .i64 0, .int .i64 0, .int .i64 0] 26 (0, 0)) from by first | exact (blk_below (g := gb139) (o := .cells #[.int .i64 0, .int .i64 0, .int .i64 0] 26 (0, 0)) (by (with_reducible repeat (first | refine blk_drewN ?_ _ | refine blk_drew ?_ | refine blk_alloc ?_ _)); exact (Q_BK139 h0_ h1_)) hb))
      clear BK127
      clear HB
      have BK127 := n0_
      have HB := n1_
      have BK137 := n2_
      have GW137 := n3_
      have GE137 := n4_
      have NB127_137 := n5_
      have NB137_127 := n6_
      clear n0_ n1_ n2_ n3_ n4_ n5_ n6_
      clear hb hbox hg
      refine hK.out _ _ ⟨gb137, gb138, gb139, (.pointer (some ⟨gb137, 0, none⟩)), m10_, m11_, (by rw [ha.out]; exact putSel_upk 9 hb_ rfl rfl rfl), (by (with_reducible repeat (first | refine blk_drewN ?_ _ | refine blk_drew ?_ | refine blk_alloc ?_ _)); exact BK127.out), (by repeat (first | (with_reducible first | exact HB.out | apply below_alloc | apply pw_below_drewN | apply below_drew1 | refine below_set ?_ GE127.out | refine below_set ?_ GE137.out) | exact HB.out)), @z_NB138_137, @z_NB137_138, @z_NB139_137, @z_NB137_139, Q_NB139_138, Q_NB138_139, fun _ _ => (by (with_reducible repeat (first | refine blk_drewN ?_ _ | refine blk_drew ?_ | refine blk_alloc ?_ _)); exact BK137.out), fun _ => GW137.out, fun _ => GE137.out, fun _ => NB127_137.out, fun _ => NB137_127.out, z_BK138, Q_GW138, Q_GE138, Q_NB127_138, Q_NB138_127, z_BK139, Q_GW139, Q_GE139, Q_NB127_139, Q_NB139_127, fun h0_ => absurd ((hoff 12 (by kernel_rfl)).symm.trans h0_) (by decide), fun h0_ => absurd ((hoff 13 (by kernel_rfl)).symm.trans h0_) (by decide), fun h0_ => absurd ((hoff 14 (by kernel_rfl)).symm.trans h0_) (by decide), fun _ => rfl, Q_X10_, Q_X11_⟩
    refine steps_cons ?_ ?_
    · rintro b a w' ⟨gb137, gb138, gb139, m9_, m10_, m11_, ha, Q_BK127, Q_HB, Q_NB138_137, Q_NB137_138, Q_NB139_137, Q_NB137_139, Q_NB139_138, Q_NB138_139, Q_BK137, Q_GW137, Q_GE137, Q_NB127_137, Q_NB137_127, Q_BK138, Q_GW138, Q_GE138, Q_NB127_138, Q_NB138_127, Q_BK139, Q_GW139, Q_GE139, Q_NB127_139, Q_NB139_127, Q_BK137_e12, Q_BK138_e13, Q_BK139_e14, Q_X9_, Q_X10_, Q_X11_⟩ hb_ hon hoff
      refine ⟨_, rfl, fun K hK => ?_⟩
      replace ha := Aside0.mk ha
      have BK127 := Aside0.mk Q_BK127
      have HB := Aside0.mk Q_HB
      refine box_step ?hg (N := 7) ?hd (cs := #[.int .i64 0, .int .i64 0, .int .i64 0]) (t := 26) ?hr ?_; (case hd => rfl); (case hg => rfl); (case hr => first | (go_simp; done) | (go_simp; rfl))
      intro gb138 hg w9 hbox hb
      have n0_ := Aside0.mk (blk_below (g := gb127) (o := .cells #[.int .u16 a1_0, .int .u16 a1_1, .int .u16 a1_2, .int .u16 a1_3, .int .u16 a1_4, .int .u16 a1_5] 24 (0, 0)) (by (with_reducible repeat (first | refine blk_drewN ?_ _ | refine blk_drew ?_ | refine blk_alloc ?_ _)); exact BK127.out) hb)
      have n1_ := Aside0.mk (below_step (by repeat (first | (with_reducible first | exact HB.out | apply below_alloc | apply pw_below_drewN | apply below_drew1 | refine below_set ?_ GE127.out) | exact HB.out)) hb)
      have n2_ := Aside0.mk (hbox)
      have n3_ := Aside0.mk ((by rw [hg]; exact (below_size (by repeat (first | (with_reducible first | exact HB.out | apply below_alloc | apply pw_below_drewN | apply below_drew1 | refine below_set ?_ GE127.out) | exact HB.out))) : w.heap.size ≤ gb138))
      have n4_ := Aside0.mk ((by rw [hg]; exact (below_size (by repeat (first | (with_reducible first | exact HB.out | apply below_alloc | apply pw_below_drewN | apply below_drew1 | refine below_set ?_ GE127.out) | exact HB.out))) : w.heap.size ≤ gb138))
      have n5_ := Aside0.mk ((by rw [hg]; exact Nat.ne_of_lt (blk_lt (g := gb127) (o := .cells #[.int .u16 a1_0, .int .u16 a1_1, .int .u16 a1_2, .int .u16 a1_3, .int .u16 a1_4, .int .u16 a1_5] 24 (0, 0)) (by (with_reducible repeat (first | refine blk_drewN ?_ _ | refine blk_drew ?_ | refine blk_alloc ?_ _)); exact BK127.out)) : gb127 ≠ gb138))
      have n6_ := Aside0.mk ((by rw [hg]; exact Nat.ne_of_gt (blk_lt (g := gb127) (o := .cells #[.int .u16 a1_0, .int .u16 a1_1, .int .u16 a1_2, .int .u16 a1_3, .int .u16 a1_4, .int .u16 a1_5] 24 (0, 0)) (by (with_reducible repeat (first | refine blk_drewN ?_ _ | refine blk_drew ?_ | refine blk_alloc ?_ _)); exact BK127.out)) : gb138 ≠ gb127))
      have z_NB138_137 := fun (h0_ : up b 10 9 = true) (h1_ : up b 10 10 = true) => (show gb138 ≠ gb137 from ((by rw [hg]; exact Nat.ne_of_gt (blk_lt (g := gb137) (o := .cells #[.int .i64 0, .int .i64 0, .int .i64 0] 26 (0, 0)) (by (with_reducible repeat (first | refine blk_drewN ?_ _ | refine blk_drew ?_ | refine blk_alloc ?_ _)); exact (Q_BK137 (show b 9 = true from h0_) (hoff 12 (by kernel_rfl))))) : gb138 ≠ gb137)))
      have z_NB137_138 := fun (h0_ : up b 10 9 = true) (h1_ : up b 10 10 = true) => (show gb137 ≠ gb138 from ((by rw [hg]; exact Nat.ne_of_lt (blk_lt (g := gb137) (o := .cells #[.int .i64 0, .int .i64 0, .int .i64 0] 26 (0, 0)) (by (with_reducible repeat (first | refine blk_drewN ?_ _ | refine blk_drew ?_ | refine blk_alloc ?_ _)); exact (Q_BK137 (show b 9 = true from h0_) (hoff 12 (by kernel_rfl))))) : gb137 ≠ gb138)))
      have z_NB139_138 := fun (h0_ : up b 10 10 = true) (h1_ : up b 10 11 = true) => (show gb139 ≠ gb138 from ((by rw [hg]; exact Nat.ne_of_lt (blk_lt (g := gb139) (o := .cells #[.int .i64 0, .int .i64 0, .int .i64 0] 26 (0, 0)) (by (with_reducible repeat (first | refine blk_drewN ?_ _ | refine blk_drew ?_ | refine blk_alloc ?_ _)); exact (Q_BK139 (show b 11 = true from h1_) (hoff 14 (by kernel_rfl))))) : gb139 ≠ gb138)))
      have z_NB138_139 := fun (h0_ : up b 10 10 = true) (h1_ : up b 10 11 = true) => (show gb138 ≠ gb139 from ((by rw [hg]; exact Nat.ne_of_gt (blk_lt (g := gb139) (o := .cells #[.int .i64 0, .int .i64 0, .int .i64 0] 26 (0, 0)) (by (with_reducible repeat (first | refine blk_drewN ?_ _ | refine blk_drew ?_ | refine blk_alloc ?_ _)); exact (Q_BK139 (show b 11 = true from h1_) (hoff 14 (by kernel_rfl))))) : gb138 ≠ gb139)))
      have z_BK137 := fun (h0_ : b 9 = true) (h1_ : b 12 = false) => (show w9.heap[gb137]? = some (.cells #[.int .i64 0, .int .i64 0, .int .i64 0] 26 (0, 0)) from by first | exact (blk_below (g := gb137) (o := .cells #[.int .i64 0, .int .i64 0, .int .i64 0] 26 (0, 0)) (by (with_reducible repeat (first | refine blk_drewN ?_ _ | refine blk_drew ?_ | refine blk_alloc ?_ _)); exact (Q_BK137 h0_ h1_)) hb))
      have z_BK139 := fun (h0_ : b 11 = true) (h1_ : b 14 = false) => (show w9.heap[gb139]? = some (.cells #[.int .i64 0, .int .i64 0, .int .i64 0] 26 (0, 0)) from by first | exact (blk_below (g := gb139) (o := .cells #[.int .i64 0, .int .i64 0, .int .i64 0] 26 (0, 0)) (by (with_reducible repeat (first | refine blk_drewN ?_ _ | refine blk_drew ?_ | refine blk_alloc ?_ _)); exact (Q_BK139 h0_ h1_)) hb))
      clear BK127
      clear HB
      have BK127 := n0_
      have HB := n1_
      have BK138 := n2_
      have GW138 := n3_
      have GE138 := n4_
      have NB127_138 := n5_
      have NB138_127 := n6_
      clear n0_ n1_ n2_ n3_ n4_ n5_ n6_
      clear hb hbox hg
      refine hK.out _ _ ⟨gb137, gb138, gb139, m9_, (.pointer (some ⟨gb138, 0, none⟩)), m11_, (by rw [ha.out]; exact putSel_upk 10 hb_ rfl rfl rfl), (by (with_reducible repeat (first | refine blk_drewN ?_ _ | refine blk_drew ?_ | refine blk_alloc ?_ _)); exact BK127.out), (by repeat (first | (with_reducible first | exact HB.out | apply below_alloc | apply pw_below_drewN | apply below_drew1 | refine below_set ?_ GE127.out | refine below_set ?_ GE138.out) | exact HB.out)), @z_NB138_137, @z_NB137_138, Q_NB139_137, Q_NB137_139, @z_NB139_138, @z_NB138_139, z_BK137, Q_GW137, Q_GE137, Q_NB127_137, Q_NB137_127, fun _ _ => (by (with_reducible repeat (first | refine blk_drewN ?_ _ | refine blk_drew ?_ | refine blk_alloc ?_ _)); exact BK138.out), fun _ => GW138.out, fun _ => GE138.out, fun _ => NB127_138.out, fun _ => NB138_127.out, z_BK139, Q_GW139, Q_GE139, Q_NB127_139, Q_NB139_127, fun h0_ => absurd ((hoff 12 (by kernel_rfl)).symm.trans h0_) (by decide), fun h0_ => absurd ((hoff 13 (by kernel_rfl)).symm.trans h0_) (by decide), fun h0_ => absurd ((hoff 14 (by kernel_rfl)).symm.trans h0_) (by decide), Q_X9_, fun _ => rfl, Q_X11_⟩
    refine steps_cons ?_ ?_
    · rintro b a w' ⟨gb137, gb138, gb139, m9_, m10_, m11_, ha, Q_BK127, Q_HB, Q_NB138_137, Q_NB137_138, Q_NB139_137, Q_NB137_139, Q_NB139_138, Q_NB138_139, Q_BK137, Q_GW137, Q_GE137, Q_NB127_137, Q_NB137_127, Q_BK138, Q_GW138, Q_GE138, Q_NB127_138, Q_NB138_127, Q_BK139, Q_GW139, Q_GE139, Q_NB127_139, Q_NB139_127, Q_BK137_e12, Q_BK138_e13, Q_BK139_e14, Q_X9_, Q_X10_, Q_X11_⟩ hb_ hon hoff
      refine ⟨_, rfl, fun K hK => ?_⟩
      replace ha := Aside0.mk ha
      have BK127 := Aside0.mk Q_BK127
      have HB := Aside0.mk Q_HB
      refine box_step ?hg (N := 8) ?hd (cs := #[.int .i64 0, .int .i64 0, .int .i64 0]) (t := 26) ?hr ?_; (case hd => rfl); (case hg => rfl); (case hr => first | (go_simp; done) | (go_simp; rfl))
      intro gb139 hg w9 hbox hb
      have n0_ := Aside0.mk (blk_below (g := gb127) (o := .cells #[.int .u16 a1_0, .int .u16 a1_1, .int .u16 a1_2, .int .u16 a1_3, .int .u16 a1_4, .int .u16 a1_5] 24 (0, 0)) (by (with_reducible repeat (first | refine blk_drewN ?_ _ | refine blk_drew ?_ | refine blk_alloc ?_ _)); exact BK127.out) hb)
      have n1_ := Aside0.mk (below_step (by repeat (first | (with_reducible first | exact HB.out | apply below_alloc | apply pw_below_drewN | apply below_drew1 | refine below_set ?_ GE127.out) | exact HB.out)) hb)
      have n2_ := Aside0.mk (hbox)
      have n3_ := Aside0.mk ((by rw [hg]; exact (below_size (by repeat (first | (with_reducible first | exact HB.out | apply below_alloc | apply pw_below_drewN | apply below_drew1 | refine below_set ?_ GE127.out) | exact HB.out))) : w.heap.size ≤ gb139))
      have n4_ := Aside0.mk ((by rw [hg]; exact (below_size (by repeat (first | (with_reducible first | exact HB.out | apply below_alloc | apply pw_below_drewN | apply below_drew1 | refine below_set ?_ GE127.out) | exact HB.out))) : w.heap.size ≤ gb139))
      have n5_ := Aside0.mk ((by rw [hg]; exact Nat.ne_of_lt (blk_lt (g := gb127) (o := .cells #[.int .u16 a1_0, .int .u16 a1_1, .int .u16 a1_2, .int .u16 a1_3, .int .u16 a1_4, .int .u16 a1_5] 24 (0, 0)) (by (with_reducible repeat (first | refine blk_drewN ?_ _ | refine blk_drew ?_ | refine blk_alloc ?_ _)); exact BK127.out)) : gb127 ≠ gb139))
      have n6_ := Aside0.mk ((by rw [hg]; exact Nat.ne_of_gt (blk_lt (g := gb127) (o := .cells #[.int .u16 a1_0, .int .u16 a1_1, .int .u16 a1_2, .int .u16 a1_3, .int .u16 a1_4, .int .u16 a1_5] 24 (0, 0)) (by (with_reducible repeat (first | refine blk_drewN ?_ _ | refine blk_drew ?_ | refine blk_alloc ?_ _)); exact BK127.out)) : gb139 ≠ gb127))
      have z_NB139_137 := fun (h0_ : up b 11 9 = true) (h1_ : up b 11 11 = true) => (show gb139 ≠ gb137 from ((by rw [hg]; exact Nat.ne_of_gt (blk_lt (g := gb137) (o := .cells #[.int .i64 0, .int .i64 0, .int .i64 0] 26 (0, 0)) (by (with_reducible repeat (first | refine blk_drewN ?_ _ | refine blk_drew ?_ | refine blk_alloc ?_ _)); exact (Q_BK137 (show b 9 = true from h0_) (hoff 12 (by kernel_rfl))))) : gb139 ≠ gb137)))
      have z_NB137_139 := fun (h0_ : up b 11 9 = true) (h1_ : up b 11 11 = true) => (show gb137 ≠ gb139 from ((by rw [hg]; exact Nat.ne_of_lt (blk_lt (g := gb137) (o := .cells #[.int .i64 0, .int .i64 0, .int .i64 0] 26 (0, 0)) (by (with_reducible repeat (first | refine blk_drewN ?_ _ | refine blk_drew ?_ | refine blk_alloc ?_ _)); exact (Q_BK137 (show b 9 = true from h0_) (hoff 12 (by kernel_rfl))))) : gb137 ≠ gb139)))
      have z_NB139_138 := fun (h0_ : up b 11 10 = true) (h1_ : up b 11 11 = true) => (show gb139 ≠ gb138 from ((by rw [hg]; exact Nat.ne_of_gt (blk_lt (g := gb138) (o := .cells #[.int .i64 0, .int .i64 0, .int .i64 0] 26 (0, 0)) (by (with_reducible repeat (first | refine blk_drewN ?_ _ | refine blk_drew ?_ | refine blk_alloc ?_ _)); exact (Q_BK138 (show b 10 = true from h0_) (hoff 13 (by kernel_rfl))))) : gb139 ≠ gb138)))
      have z_NB138_139 := fun (h0_ : up b 11 10 = true) (h1_ : up b 11 11 = true) => (show gb138 ≠ gb139 from ((by rw [hg]; exact Nat.ne_of_lt (blk_lt (g := gb138) (o := .cells #[.int .i64 0, .int .i64 0, .int .i64 0] 26 (0, 0)) (by (with_reducible repeat (first | refine blk_drewN ?_ _ | refine blk_drew ?_ | refine blk_alloc ?_ _)); exact (Q_BK138 (show b 10 = true from h0_) (hoff 13 (by kernel_rfl))))) : gb138 ≠ gb139)))
      have z_BK137 := fun (h0_ : b 9 = true) (h1_ : b 12 = false) => (show w9.heap[gb137]? = some (.cells #[.int .i64 0, .int .i64 0, .int .i64 0] 26 (0, 0)) from by first | exact (blk_below (g := gb137) (o := .cells #[.int .i64 0, .int .i64 0, .int .i64 0] 26 (0, 0)) (by (with_reducible repeat (first | refine blk_drewN ?_ _ | refine blk_drew ?_ | refine blk_alloc ?_ _)); exact (Q_BK137 h0_ h1_)) hb))
      have z_BK138 := fun (h0_ : b 10 = true) (h1_ : b 13 = false) => (show w9.heap[gb138]? = some (.cells #[.int .i64 0, .int .i64 0, .int .i64 0] 26 (0, 0)) from by first | exact (blk_below (g := gb138) (o := .cells #[.int .i64 0, .int .i64 0, .int .i64 0] 26 (0, 0)) (by (with_reducible repeat (first | refine blk_drewN ?_ _ | refine blk_drew ?_ | refine blk_alloc ?_ _)); exact (Q_BK138 h0_ h1_)) hb))
      clear BK127
      clear HB
      have BK127 := n0_
      have HB := n1_
      have BK139 := n2_
      have GW139 := n3_
      have GE139 := n4_
      have NB127_139 := n5_
      have NB139_127 := n6_
      clear n0_ n1_ n2_ n3_ n4_ n5_ n6_
      clear hb hbox hg
      refine hK.out _ _ ⟨gb137, gb138, gb139, m9_, m10_, (.pointer (some ⟨gb139, 0, none⟩)), (by rw [ha.out]; exact putSel_upk 11 hb_ rfl rfl rfl), (by (with_reducible repeat (first | refine blk_drewN ?_ _ | refine blk_drew ?_ | refine blk_alloc ?_ _)); exact BK127.out), (by repeat (first | (with_reducible first | exact HB.out | apply below_alloc | apply pw_below_drewN | apply below_drew1 | refine below_set ?_ GE127.out | refine below_set ?_ GE139.out) | exact HB.out)), Q_NB138_137, Q_NB137_138, @z_NB139_137, @z_NB137_139, @z_NB139_138, @z_NB138_139, z_BK137, Q_GW137, Q_GE137, Q_NB127_137, Q_NB137_127, z_BK138, Q_GW138, Q_GE138, Q_NB127_138, Q_NB138_127, fun _ _ => (by (with_reducible repeat (first | refine blk_drewN ?_ _ | refine blk_drew ?_ | refine blk_alloc ?_ _)); exact BK139.out), fun _ => GW139.out, fun _ => GE139.out, fun _ => NB127_139.out, fun _ => NB139_127.out, fun h0_ => absurd ((hoff 12 (by kernel_rfl)).symm.trans h0_) (by decide), fun h0_ => absurd ((hoff 13 (by kernel_rfl)).symm.trans h0_) (by decide), fun h0_ => absurd ((hoff 14 (by kernel_rfl)).symm.trans h0_) (by decide), Q_X9_, Q_X10_, fun _ => rfl⟩
    refine steps_cons ?_ ?_
    · rintro b a w' ⟨gb137, gb138, gb139, m9_, m10_, m11_, ha, Q_BK127, Q_HB, Q_NB138_137, Q_NB137_138, Q_NB139_137, Q_NB137_139, Q_NB139_138, Q_NB138_139, Q_BK137, Q_GW137, Q_GE137, Q_NB127_137, Q_NB137_127, Q_BK138, Q_GW138, Q_GE138, Q_NB127_138, Q_NB138_127, Q_BK139, Q_GW139, Q_GE139, Q_NB127_139, Q_NB139_127, Q_BK137_e12, Q_BK138_e13, Q_BK139_e14, Q_X9_, Q_X10_, Q_X11_⟩ hb_ hon hoff
      refine ⟨_, rfl, fun K hK => ?_⟩
      have e6 : a.tmps[6]? = some (m9_) := by rw [ha]; exact putSel_on (e := (9, 6, m9_)) 9 rfl rfl (hon 9 (by kernel_rfl)) rfl
      rw [Q_X9_ (hon 9 (by kernel_rfl))] at e6
      have e15 : a.tmps[15]? = some (.agg #[.int .i64 t128, .int .i64 t129, .int .i64 t130]) := by rw [ha]; exact putSel_on (e := (2, 15, .agg #[.int .i64 t128, .int .i64 t129, .int .i64 t130])) 2 rfl rfl (hon 2 (by kernel_rfl)) rfl
      replace ha := Aside0.mk ha
      have BK127 := Aside0.mk Q_BK127
      have HB := Aside0.mk Q_HB
      have NB138_137 := Aside0.mk (Q_NB138_137 (hon 9 (by kernel_rfl)) (hon 10 (by kernel_rfl)))
      have NB137_138 := Aside0.mk (Q_NB137_138 (hon 9 (by kernel_rfl)) (hon 10 (by kernel_rfl)))
      have NB139_137 := Aside0.mk (Q_NB139_137 (hon 9 (by kernel_rfl)) (hon 11 (by kernel_rfl)))
      have NB137_139 := Aside0.mk (Q_NB137_139 (hon 9 (by kernel_rfl)) (hon 11 (by kernel_rfl)))
      have NB139_138 := Aside0.mk (Q_NB139_138 (hon 10 (by kernel_rfl)) (hon 11 (by kernel_rfl)))
      have NB138_139 := Aside0.mk (Q_NB138_139 (hon 10 (by kernel_rfl)) (hon 11 (by kernel_rfl)))
      have BK137 := Aside0.mk (Q_BK137 (hon 9 (by kernel_rfl)) hb_)
      have GW137 := Aside0.mk (Q_GW137 (hon 9 (by kernel_rfl)))
      have GE137 := Aside0.mk (Q_GE137 (hon 9 (by kernel_rfl)))
      have NB127_137 := Aside0.mk (Q_NB127_137 (hon 9 (by kernel_rfl)))
      have NB137_127 := Aside0.mk (Q_NB137_127 (hon 9 (by kernel_rfl)))
      have BK138 := Aside0.mk (Q_BK138 (hon 10 (by kernel_rfl)) (hoff 13 (by kernel_rfl)))
      have GW138 := Aside0.mk (Q_GW138 (hon 10 (by kernel_rfl)))
      have GE138 := Aside0.mk (Q_GE138 (hon 10 (by kernel_rfl)))
      have NB127_138 := Aside0.mk (Q_NB127_138 (hon 10 (by kernel_rfl)))
      have NB138_127 := Aside0.mk (Q_NB138_127 (hon 10 (by kernel_rfl)))
      have BK139 := Aside0.mk (Q_BK139 (hon 11 (by kernel_rfl)) (hoff 14 (by kernel_rfl)))
      have GW139 := Aside0.mk (Q_GW139 (hon 11 (by kernel_rfl)))
      have GE139 := Aside0.mk (Q_GE139 (hon 11 (by kernel_rfl)))
      have NB127_139 := Aside0.mk (Q_NB127_139 (hon 11 (by kernel_rfl)))
      have NB139_127 := Aside0.mk (Q_NB139_127 (hon 11 (by kernel_rfl)))
      have hs16 : w'.cell? ⟨gb137, 0, none⟩ = some (.int .i64 0) := (blk_cell BK137.out 0).trans rfl
      have hfs16 := blk_frozen BK137.out 0
      have hns16_0 := NB127_137.out
      have hns16_2 := NB138_137.out
      have hns16_3 := NB139_137.out
      have hms16_0 := NB137_127.out
      have hms16_2 := NB137_138.out
      have hms16_3 := NB137_139.out
      have hs17 : w'.cell? ⟨gb137, 1, none⟩ = some (.int .i64 0) := (blk_cell BK137.out 1).trans rfl
      have hfs17 := blk_frozen BK137.out 1
      have hns17_0 := NB127_137.out
      have hns17_2 := NB138_137.out
      have hns17_3 := NB139_137.out
      have hms17_0 := NB137_127.out
      have hms17_2 := NB137_138.out
      have hms17_3 := NB137_139.out
      have hs18 : w'.cell? ⟨gb137, 2, none⟩ = some (.int .i64 0) := (blk_cell BK137.out 2).trans rfl
      have hfs18 := blk_frozen BK137.out 2
      have hns18_0 := NB127_137.out
      have hns18_2 := NB138_137.out
      have hns18_3 := NB139_137.out
      have hms18_0 := NB137_127.out
      have hms18_2 := NB137_138.out
      have hms18_3 := NB137_139.out
      refine skip_ (w1 := ?_) (by rfl) rfl ?_ ?_
      rotate_left
      · go_simp
        rfl
      refine hK.out _ _ ⟨gb137, gb138, gb139, m9_, m10_, m11_, (by rw [ha.out]; exact putSel_none (v := undef) rfl), (by (with_reducible repeat (first | refine blk_drewN ?_ _ | refine blk_drew ?_ | refine blk_alloc ?_ _)); refine blk_far ?_ NB127_137.out _; (with_reducible repeat (first | refine blk_drewN ?_ _ | refine blk_drew ?_ | refine blk_alloc ?_ _)); refine blk_far ?_ NB127_137.out _; (with_reducible repeat (first | refine blk_drewN ?_ _ | refine blk_drew ?_ | refine blk_alloc ?_ _)); refine blk_far ?_ NB127_137.out _; (with_reducible repeat (first | refine blk_drewN ?_ _ | refine blk_drew ?_ | refine blk_alloc ?_ _)); exact BK127.out), (by repeat (first | (with_reducible first | exact HB.out | apply below_alloc | apply pw_below_drewN | apply below_drew1 | refine below_set ?_ GE127.out | refine below_set ?_ GE137.out | refine below_set ?_ GE138.out | refine below_set ?_ GE139.out) | exact HB.out)), fun _ _ => NB138_137.out, fun _ _ => NB137_138.out, fun _ _ => NB139_137.out, fun _ _ => NB137_139.out, fun _ _ => NB139_138.out, fun _ _ => NB138_139.out, fun _ h1_ => absurd ((up_self b 12).symm.trans h1_) (by decide), fun _ => GW137.out, fun _ => GE137.out, fun _ => NB127_137.out, fun _ => NB137_127.out, fun _ _ => (by (with_reducible repeat (first | refine blk_drewN ?_ _ | refine blk_drew ?_ | refine blk_alloc ?_ _)); refine blk_far ?_ NB138_137.out _; (with_reducible repeat (first | refine blk_drewN ?_ _ | refine blk_drew ?_ | refine blk_alloc ?_ _)); refine blk_far ?_ NB138_137.out _; (with_reducible repeat (first | refine blk_drewN ?_ _ | refine blk_drew ?_ | refine blk_alloc ?_ _)); refine blk_far ?_ NB138_137.out _; (with_reducible repeat (first | refine blk_drewN ?_ _ | refine blk_drew ?_ | refine blk_alloc ?_ _)); exact BK138.out), fun _ => GW138.out, fun _ => GE138.out, fun _ => NB127_138.out, fun _ => NB138_127.out, fun _ _ => (by (with_reducible repeat (first | refine blk_drewN ?_ _ | refine blk_drew ?_ | refine blk_alloc ?_ _)); refine blk_far ?_ NB139_137.out _; (with_reducible repeat (first | refine blk_drewN ?_ _ | refine blk_drew ?_ | refine blk_alloc ?_ _)); refine blk_far ?_ NB139_137.out _; (with_reducible repeat (first | refine blk_drewN ?_ _ | refine blk_drew ?_ | refine blk_alloc ?_ _)); refine blk_far ?_ NB139_137.out _; (with_reducible repeat (first | refine blk_drewN ?_ _ | refine blk_drew ?_ | refine blk_alloc ?_ _)); exact BK139.out), fun _ => GW139.out, fun _ => GE139.out, fun _ => NB127_139.out, fun _ => NB139_127.out, fun _ => (by (with_reducible repeat (first | refine blk_drewN ?_ _ | refine blk_drew ?_ | refine blk_alloc ?_ _)); refine blk_put (cs := #[.int .i64 t128, .int .i64 t129, .int .i64 0]) ?_ 2 _ rfl; (with_reducible repeat (first | refine blk_drewN ?_ _ | refine blk_drew ?_ | refine blk_alloc ?_ _)); refine blk_put (cs := #[.int .i64 t128, .int .i64 0, .int .i64 0]) ?_ 1 _ rfl; (with_reducible repeat (first | refine blk_drewN ?_ _ | refine blk_drew ?_ | refine blk_alloc ?_ _)); refine blk_put (cs := #[.int .i64 0, .int .i64 0, .int .i64 0]) ?_ 0 _ rfl; (with_reducible repeat (first | refine blk_drewN ?_ _ | refine blk_drew ?_ | refine blk_alloc ?_ _)); exact BK137.out), fun h0_ => absurd ((hoff 13 (by kernel_rfl)).symm.trans h0_) (by decide), fun h0_ => absurd ((hoff 14 (by kernel_rfl)).symm.trans h0_) (by decide), Q_X9_, Q_X10_, Q_X11_⟩
    refine steps_cons ?_ ?_
    · rintro b a w' ⟨gb137, gb138, gb139, m9_, m10_, m11_, ha, Q_BK127, Q_HB, Q_NB138_137, Q_NB137_138, Q_NB139_137, Q_NB137_139, Q_NB139_138, Q_NB138_139, Q_BK137, Q_GW137, Q_GE137, Q_NB127_137, Q_NB137_127, Q_BK138, Q_GW138, Q_GE138, Q_NB127_138, Q_NB138_127, Q_BK139, Q_GW139, Q_GE139, Q_NB127_139, Q_NB139_127, Q_BK137_e12, Q_BK138_e13, Q_BK139_e14, Q_X9_, Q_X10_, Q_X11_⟩ hb_ hon hoff
      refine ⟨_, rfl, fun K hK => ?_⟩
      have e7 : a.tmps[7]? = some (m10_) := by rw [ha]; exact putSel_on (e := (10, 7, m10_)) 10 rfl rfl (hon 10 (by kernel_rfl)) rfl
      rw [Q_X10_ (hon 10 (by kernel_rfl))] at e7
      have e18 : a.tmps[18]? = some (.agg #[.int .i64 t131, .int .i64 t132, .int .i64 t133]) := by rw [ha]; exact putSel_on (e := (5, 18, .agg #[.int .i64 t131, .int .i64 t132, .int .i64 t133])) 5 rfl rfl (hon 5 (by kernel_rfl)) rfl
      replace ha := Aside0.mk ha
      have BK127 := Aside0.mk Q_BK127
      have HB := Aside0.mk Q_HB
      have NB138_137 := Aside0.mk (Q_NB138_137 (hon 9 (by kernel_rfl)) (hon 10 (by kernel_rfl)))
      have NB137_138 := Aside0.mk (Q_NB137_138 (hon 9 (by kernel_rfl)) (hon 10 (by kernel_rfl)))
      have NB139_137 := Aside0.mk (Q_NB139_137 (hon 9 (by kernel_rfl)) (hon 11 (by kernel_rfl)))
      have NB137_139 := Aside0.mk (Q_NB137_139 (hon 9 (by kernel_rfl)) (hon 11 (by kernel_rfl)))
      have NB139_138 := Aside0.mk (Q_NB139_138 (hon 10 (by kernel_rfl)) (hon 11 (by kernel_rfl)))
      have NB138_139 := Aside0.mk (Q_NB138_139 (hon 10 (by kernel_rfl)) (hon 11 (by kernel_rfl)))
      have GW137 := Aside0.mk (Q_GW137 (hon 9 (by kernel_rfl)))
      have GE137 := Aside0.mk (Q_GE137 (hon 9 (by kernel_rfl)))
      have NB127_137 := Aside0.mk (Q_NB127_137 (hon 9 (by kernel_rfl)))
      have NB137_127 := Aside0.mk (Q_NB137_127 (hon 9 (by kernel_rfl)))
      have BK138 := Aside0.mk (Q_BK138 (hon 10 (by kernel_rfl)) hb_)
      have GW138 := Aside0.mk (Q_GW138 (hon 10 (by kernel_rfl)))
      have GE138 := Aside0.mk (Q_GE138 (hon 10 (by kernel_rfl)))
      have NB127_138 := Aside0.mk (Q_NB127_138 (hon 10 (by kernel_rfl)))
      have NB138_127 := Aside0.mk (Q_NB138_127 (hon 10 (by kernel_rfl)))
      have BK139 := Aside0.mk (Q_BK139 (hon 11 (by kernel_rfl)) (hoff 14 (by kernel_rfl)))
      have GW139 := Aside0.mk (Q_GW139 (hon 11 (by kernel_rfl)))
      have GE139 := Aside0.mk (Q_GE139 (hon 11 (by kernel_rfl)))
      have NB127_139 := Aside0.mk (Q_NB127_139 (hon 11 (by kernel_rfl)))
      have NB139_127 := Aside0.mk (Q_NB139_127 (hon 11 (by kernel_rfl)))
      have BK137 := Aside0.mk (Q_BK137_e12 (hon 12 (by kernel_rfl)))
      have hs19 : w'.cell? ⟨gb138, 0, none⟩ = some (.int .i64 0) := (blk_cell BK138.out 0).trans rfl
      have hfs19 := blk_frozen BK138.out 0
      have hns19_0 := NB127_138.out
      have hns19_1 := NB137_138.out
      have hns19_3 := NB139_138.out
      have hms19_0 := NB138_127.out
      have hms19_1 := NB138_137.out
      have hms19_3 := NB138_139.out
      have hs20 : w'.cell? ⟨gb138, 1, none⟩ = some (.int .i64 0) := (blk_cell BK138.out 1).trans rfl
      have hfs20 := blk_frozen BK138.out 1
      have hns20_0 := NB127_138.out
      have hns20_1 := NB137_138.out
      have hns20_3 := NB139_138.out
      have hms20_0 := NB138_127.out
      have hms20_1 := NB138_137.out
      have hms20_3 := NB138_139.out
      have hs21 : w'.cell? ⟨gb138, 2, none⟩ = some (.int .i64 0) := (blk_cell BK138.out 2).trans rfl
      have hfs21 := blk_frozen BK138.out 2
      have hns21_0 := NB127_138.out
      have hns21_1 := NB137_138.out
      have hns21_3 := NB139_138.out
      have hms21_0 := NB138_127.out
      have hms21_1 := NB138_137.out
      have hms21_3 := NB138_139.out
      refine skip_ (w1 := ?_) (by rfl) rfl ?_ ?_
      rotate_left
      · go_simp
        rfl
      refine hK.out _ _ ⟨gb137, gb138, gb139, m9_, m10_, m11_, (by rw [ha.out]; exact putSel_none (v := undef) rfl), (by (with_reducible repeat (first | refine blk_drewN ?_ _ | refine blk_drew ?_ | refine blk_alloc ?_ _)); refine blk_far ?_ NB127_138.out _; (with_reducible repeat (first | refine blk_drewN ?_ _ | refine blk_drew ?_ | refine blk_alloc ?_ _)); refine blk_far ?_ NB127_138.out _; (with_reducible repeat (first | refine blk_drewN ?_ _ | refine blk_drew ?_ | refine blk_alloc ?_ _)); refine blk_far ?_ NB127_138.out _; (with_reducible repeat (first | refine blk_drewN ?_ _ | refine blk_drew ?_ | refine blk_alloc ?_ _)); exact BK127.out), (by repeat (first | (with_reducible first | exact HB.out | apply below_alloc | apply pw_below_drewN | apply below_drew1 | refine below_set ?_ GE127.out | refine below_set ?_ GE137.out | refine below_set ?_ GE138.out | refine below_set ?_ GE139.out) | exact HB.out)), fun _ _ => NB138_137.out, fun _ _ => NB137_138.out, fun _ _ => NB139_137.out, fun _ _ => NB137_139.out, fun _ _ => NB139_138.out, fun _ _ => NB138_139.out, fun _ h1_ => absurd ((hon 12 (by kernel_rfl)).symm.trans h1_) (by decide), fun _ => GW137.out, fun _ => GE137.out, fun _ => NB127_137.out, fun _ => NB137_127.out, fun _ h1_ => absurd ((up_self b 13).symm.trans h1_) (by decide), fun _ => GW138.out, fun _ => GE138.out, fun _ => NB127_138.out, fun _ => NB138_127.out, fun _ _ => (by (with_reducible repeat (first | refine blk_drewN ?_ _ | refine blk_drew ?_ | refine blk_alloc ?_ _)); refine blk_far ?_ NB139_138.out _; (with_reducible repeat (first | refine blk_drewN ?_ _ | refine blk_drew ?_ | refine blk_alloc ?_ _)); refine blk_far ?_ NB139_138.out _; (with_reducible repeat (first | refine blk_drewN ?_ _ | refine blk_drew ?_ | refine blk_alloc ?_ _)); refine blk_far ?_ NB139_138.out _; (with_reducible repeat (first | refine blk_drewN ?_ _ | refine blk_drew ?_ | refine blk_alloc ?_ _)); exact BK139.out), fun _ => GW139.out, fun _ => GE139.out, fun _ => NB127_139.out, fun _ => NB139_127.out, fun _ => (by (with_reducible repeat (first | refine blk_drewN ?_ _ | refine blk_drew ?_ | refine blk_alloc ?_ _)); refine blk_far ?_ NB137_138.out _; (with_reducible repeat (first | refine blk_drewN ?_ _ | refine blk_drew ?_ | refine blk_alloc ?_ _)); refine blk_far ?_ NB137_138.out _; (with_reducible repeat (first | refine blk_drewN ?_ _ | refine blk_drew ?_ | refine blk_alloc ?_ _)); refine blk_far ?_ NB137_138.out _; (with_reducible repeat (first | refine blk_drewN ?_ _ | refine blk_drew ?_ | refine blk_alloc ?_ _)); exact BK137.out), fun _ => (by (with_reducible repeat (first | refine blk_drewN ?_ _ | refine blk_drew ?_ | refine blk_alloc ?_ _)); refine blk_put (cs := #[.int .i64 t131, .int .i64 t132, .int .i64 0]) ?_ 2 _ rfl; (with_reducible repeat (first | refine blk_drewN ?_ _ | refine blk_drew ?_ | refine blk_alloc ?_ _)); refine blk_put (cs := #[.int .i64 t131, .int .i64 0, .int .i64 0]) ?_ 1 _ rfl; (with_reducible repeat (first | refine blk_drewN ?_ _ | refine blk_drew ?_ | refine blk_alloc ?_ _)); refine blk_put (cs := #[.int .i64 0, .int .i64 0, .int .i64 0]) ?_ 0 _ rfl; (with_reducible repeat (first | refine blk_drewN ?_ _ | refine blk_drew ?_ | refine blk_alloc ?_ _)); exact BK138.out), fun h0_ => absurd ((hoff 14 (by kernel_rfl)).symm.trans h0_) (by decide), Q_X9_, Q_X10_, Q_X11_⟩
    refine steps_cons ?_ ?_
    · rintro b a w' ⟨gb137, gb138, gb139, m9_, m10_, m11_, ha, Q_BK127, Q_HB, Q_NB138_137, Q_NB137_138, Q_NB139_137, Q_NB137_139, Q_NB139_138, Q_NB138_139, Q_BK137, Q_GW137, Q_GE137, Q_NB127_137, Q_NB137_127, Q_BK138, Q_GW138, Q_GE138, Q_NB127_138, Q_NB138_127, Q_BK139, Q_GW139, Q_GE139, Q_NB127_139, Q_NB139_127, Q_BK137_e12, Q_BK138_e13, Q_BK139_e14, Q_X9_, Q_X10_, Q_X11_⟩ hb_ hon hoff
      refine ⟨_, rfl, fun K hK => ?_⟩
      have e8 : a.tmps[8]? = some (m11_) := by rw [ha]; exact putSel_on (e := (11, 8, m11_)) 11 rfl rfl (hon 11 (by kernel_rfl)) rfl
      rw [Q_X11_ (hon 11 (by kernel_rfl))] at e8
      have e21 : a.tmps[21]? = some (.agg #[.int .i64 t134, .int .i64 t135, .int .i64 t136]) := by rw [ha]; exact putSel_on (e := (8, 21, .agg #[.int .i64 t134, .int .i64 t135, .int .i64 t136])) 8 rfl rfl (hon 8 (by kernel_rfl)) rfl
      replace ha := Aside0.mk ha
      have BK127 := Aside0.mk Q_BK127
      have HB := Aside0.mk Q_HB
      have NB138_137 := Aside0.mk (Q_NB138_137 (hon 9 (by kernel_rfl)) (hon 10 (by kernel_rfl)))
      have NB137_138 := Aside0.mk (Q_NB137_138 (hon 9 (by kernel_rfl)) (hon 10 (by kernel_rfl)))
      have NB139_137 := Aside0.mk (Q_NB139_137 (hon 9 (by kernel_rfl)) (hon 11 (by kernel_rfl)))
      have NB137_139 := Aside0.mk (Q_NB137_139 (hon 9 (by kernel_rfl)) (hon 11 (by kernel_rfl)))
      have NB139_138 := Aside0.mk (Q_NB139_138 (hon 10 (by kernel_rfl)) (hon 11 (by kernel_rfl)))
      have NB138_139 := Aside0.mk (Q_NB138_139 (hon 10 (by kernel_rfl)) (hon 11 (by kernel_rfl)))
      have GW137 := Aside0.mk (Q_GW137 (hon 9 (by kernel_rfl)))
      have GE137 := Aside0.mk (Q_GE137 (hon 9 (by kernel_rfl)))
      have NB127_137 := Aside0.mk (Q_NB127_137 (hon 9 (by kernel_rfl)))
      have NB137_127 := Aside0.mk (Q_NB137_127 (hon 9 (by kernel_rfl)))
      have GW138 := Aside0.mk (Q_GW138 (hon 10 (by kernel_rfl)))
      have GE138 := Aside0.mk (Q_GE138 (hon 10 (by kernel_rfl)))
      have NB127_138 := Aside0.mk (Q_NB127_138 (hon 10 (by kernel_rfl)))
      have NB138_127 := Aside0.mk (Q_NB138_127 (hon 10 (by kernel_rfl)))
      have BK139 := Aside0.mk (Q_BK139 (hon 11 (by kernel_rfl)) hb_)
      have GW139 := Aside0.mk (Q_GW139 (hon 11 (by kernel_rfl)))
      have GE139 := Aside0.mk (Q_GE139 (hon 11 (by kernel_rfl)))
      have NB127_139 := Aside0.mk (Q_NB127_139 (hon 11 (by kernel_rfl)))
      have NB139_127 := Aside0.mk (Q_NB139_127 (hon 11 (by kernel_rfl)))
      have BK137 := Aside0.mk (Q_BK137_e12 (hon 12 (by kernel_rfl)))
      have BK138 := Aside0.mk (Q_BK138_e13 (hon 13 (by kernel_rfl)))
      have hs22 : w'.cell? ⟨gb139, 0, none⟩ = some (.int .i64 0) := (blk_cell BK139.out 0).trans rfl
      have hfs22 := blk_frozen BK139.out 0
      have hns22_0 := NB127_139.out
      have hns22_1 := NB137_139.out
      have hns22_2 := NB138_139.out
      have hms22_0 := NB139_127.out
      have hms22_1 := NB139_137.out
      have hms22_2 := NB139_138.out
      have hs23 : w'.cell? ⟨gb139, 1, none⟩ = some (.int .i64 0) := (blk_cell BK139.out 1).trans rfl
      have hfs23 := blk_frozen BK139.out 1
      have hns23_0 := NB127_139.out
      have hns23_1 := NB137_139.out
      have hns23_2 := NB138_139.out
      have hms23_0 := NB139_127.out
      have hms23_1 := NB139_137.out
      have hms23_2 := NB139_138.out
      have hs24 : w'.cell? ⟨gb139, 2, none⟩ = some (.int .i64 0) := (blk_cell BK139.out 2).trans rfl
      have hfs24 := blk_frozen BK139.out 2
      have hns24_0 := NB127_139.out
      have hns24_1 := NB137_139.out
      have hns24_2 := NB138_139.out
      have hms24_0 := NB139_127.out
      have hms24_1 := NB139_137.out
      have hms24_2 := NB139_138.out
      refine skip_ (w1 := ?_) (by rfl) rfl ?_ ?_
      rotate_left
      · go_simp
        rfl
      refine hK.out _ _ ⟨gb137, gb138, gb139, m9_, m10_, m11_, (by rw [ha.out]; exact putSel_none (v := undef) rfl), (by (with_reducible repeat (first | refine blk_drewN ?_ _ | refine blk_drew ?_ | refine blk_alloc ?_ _)); refine blk_far ?_ NB127_139.out _; (with_reducible repeat (first | refine blk_drewN ?_ _ | refine blk_drew ?_ | refine blk_alloc ?_ _)); refine blk_far ?_ NB127_139.out _; (with_reducible repeat (first | refine blk_drewN ?_ _ | refine blk_drew ?_ | refine blk_alloc ?_ _)); refine blk_far ?_ NB127_139.out _; (with_reducible repeat (first | refine blk_drewN ?_ _ | refine blk_drew ?_ | refine blk_alloc ?_ _)); exact BK127.out), (by repeat (first | (with_reducible first | exact HB.out | apply below_alloc | apply pw_below_drewN | apply below_drew1 | refine below_set ?_ GE127.out | refine below_set ?_ GE137.out | refine below_set ?_ GE138.out | refine below_set ?_ GE139.out) | exact HB.out)), fun _ _ => NB138_137.out, fun _ _ => NB137_138.out, fun _ _ => NB139_137.out, fun _ _ => NB137_139.out, fun _ _ => NB139_138.out, fun _ _ => NB138_139.out, fun _ h1_ => absurd ((hon 12 (by kernel_rfl)).symm.trans h1_) (by decide), fun _ => GW137.out, fun _ => GE137.out, fun _ => NB127_137.out, fun _ => NB137_127.out, fun _ h1_ => absurd ((hon 13 (by kernel_rfl)).symm.trans h1_) (by decide), fun _ => GW138.out, fun _ => GE138.out, fun _ => NB127_138.out, fun _ => NB138_127.out, fun _ h1_ => absurd ((up_self b 14).symm.trans h1_) (by decide), fun _ => GW139.out, fun _ => GE139.out, fun _ => NB127_139.out, fun _ => NB139_127.out, fun _ => (by (with_reducible repeat (first | refine blk_drewN ?_ _ | refine blk_drew ?_ | refine blk_alloc ?_ _)); refine blk_far ?_ NB137_139.out _; (with_reducible repeat (first | refine blk_drewN ?_ _ | refine blk_drew ?_ | refine blk_alloc ?_ _)); refine blk_far ?_ NB137_139.out _; (with_reducible repeat (first | refine blk_drewN ?_ _ | refine blk_drew ?_ | refine blk_alloc ?_ _)); refine blk_far ?_ NB137_139.out _; (with_reducible repeat (first | refine blk_drewN ?_ _ | refine blk_drew ?_ | refine blk_alloc ?_ _)); exact BK137.out), fun _ => (by (with_reducible repeat (first | refine blk_drewN ?_ _ | refine blk_drew ?_ | refine blk_alloc ?_ _)); refine blk_far ?_ NB138_139.out _; (with_reducible repeat (first | refine blk_drewN ?_ _ | refine blk_drew ?_ | refine blk_alloc ?_ _)); refine blk_far ?_ NB138_139.out _; (with_reducible repeat (first | refine blk_drewN ?_ _ | refine blk_drew ?_ | refine blk_alloc ?_ _)); refine blk_far ?_ NB138_139.out _; (with_reducible repeat (first | refine blk_drewN ?_ _ | refine blk_drew ?_ | refine blk_alloc ?_ _)); exact BK138.out), fun _ => (by (with_reducible repeat (first | refine blk_drewN ?_ _ | refine blk_drew ?_ | refine blk_alloc ?_ _)); refine blk_put (cs := #[.int .i64 t134, .int .i64 t135, .int .i64 0]) ?_ 2 _ rfl; (with_reducible repeat (first | refine blk_drewN ?_ _ | refine blk_drew ?_ | refine blk_alloc ?_ _)); refine blk_put (cs := #[.int .i64 t134, .int .i64 0, .int .i64 0]) ?_ 1 _ rfl; (with_reducible repeat (first | refine blk_drewN ?_ _ | refine blk_drew ?_ | refine blk_alloc ?_ _)); refine blk_put (cs := #[.int .i64 0, .int .i64 0, .int .i64 0]) ?_ 0 _ rfl; (with_reducible repeat (first | refine blk_drewN ?_ _ | refine blk_drew ?_ | refine blk_alloc ?_ _)); exact BK139.out), Q_X9_, Q_X10_, Q_X11_⟩
    exact steps_nil
  rintro b a w24 hall ⟨gb137, gb138, gb139, m9_, m10_, m11_, ha, Q_BK127, Q_HB, Q_NB138_137, Q_NB137_138, Q_NB139_137, Q_NB137_139, Q_NB139_138, Q_NB138_139, Q_BK137, Q_GW137, Q_GE137, Q_NB127_137, Q_NB137_127, Q_BK138, Q_GW138, Q_GE138, Q_NB127_138, Q_NB138_127, Q_BK139, Q_GW139, Q_GE139, Q_NB127_139, Q_NB139_127, Q_BK137_e12, Q_BK138_e13, Q_BK139_e14, Q_X9_, Q_X10_, Q_X11_⟩
  clear BK127 HB
  have hb0_ := hall 0 (by kernel_rfl)
  have hb1_ := hall 1 (by kernel_rfl)
  have hb2_ := hall 2 (by kernel_rfl)
  have hb3_ := hall 3 (by kernel_rfl)
  have hb4_ := hall 4 (by kernel_rfl)
  have hb5_ := hall 5 (by kernel_rfl)
  have hb6_ := hall 6 (by kernel_rfl)
  have hb7_ := hall 7 (by kernel_rfl)
  have hb8_ := hall 8 (by kernel_rfl)
  have hb9_ := hall 9 (by kernel_rfl)
  have hb10_ := hall 10 (by kernel_rfl)
  have hb11_ := hall 11 (by kernel_rfl)
  have hb12_ := hall 12 (by kernel_rfl)
  have hb13_ := hall 13 (by kernel_rfl)
  have hb14_ := hall 14 (by kernel_rfl)
  subst ha
  obtain rfl := Q_X9_ hb9_
  obtain rfl := Q_X10_ hb10_
  obtain rfl := Q_X11_ hb11_
  simp only [putSel, hb0_, hb1_, hb2_, hb3_, hb4_, hb5_, hb6_, hb7_, hb8_, hb9_, hb10_, hb11_, hb12_, hb13_, hb14_, if_true, Act.put, List.setIfInBounds_toArray, List.set_cons_zero, List.set_cons_succ]
  have BK127 := Aside0.mk Q_BK127
  clear Q_BK127
  have HB := Aside0.mk Q_HB
  clear Q_HB
  have NB138_137 := Aside0.mk (Q_NB138_137 hb9_ hb10_)
  clear Q_NB138_137
  have NB137_138 := Aside0.mk (Q_NB137_138 hb9_ hb10_)
  clear Q_NB137_138
  have NB139_137 := Aside0.mk (Q_NB139_137 hb9_ hb11_)
  clear Q_NB139_137
  have NB137_139 := Aside0.mk (Q_NB137_139 hb9_ hb11_)
  clear Q_NB137_139
  have NB139_138 := Aside0.mk (Q_NB139_138 hb10_ hb11_)
  clear Q_NB139_138
  have NB138_139 := Aside0.mk (Q_NB138_139 hb10_ hb11_)
  clear Q_NB138_139
  clear Q_BK137
  have GW137 := Aside0.mk (Q_GW137 hb9_)
  clear Q_GW137
  have GE137 := Aside0.mk (Q_GE137 hb9_)
  clear Q_GE137
  have NB127_137 := Aside0.mk (Q_NB127_137 hb9_)
  clear Q_NB127_137
  have NB137_127 := Aside0.mk (Q_NB137_127 hb9_)
  clear Q_NB137_127
  clear Q_BK138
  have GW138 := Aside0.mk (Q_GW138 hb10_)
  clear Q_GW138
  have GE138 := Aside0.mk (Q_GE138 hb10_)
  clear Q_GE138
  have NB127_138 := Aside0.mk (Q_NB127_138 hb10_)
  clear Q_NB127_138
  have NB138_127 := Aside0.mk (Q_NB138_127 hb10_)
  clear Q_NB138_127
  clear Q_BK139
  have GW139 := Aside0.mk (Q_GW139 hb11_)
  clear Q_GW139
  have GE139 := Aside0.mk (Q_GE139 hb11_)
  clear Q_GE139
  have NB127_139 := Aside0.mk (Q_NB127_139 hb11_)
  clear Q_NB127_139
  have NB139_127 := Aside0.mk (Q_NB139_127 hb11_)
  clear Q_NB139_127
  have BK137 := Aside0.mk (Q_BK137_e12 hb12_)
  clear Q_BK137_e12
  have BK138 := Aside0.mk (Q_BK138_e13 hb13_)
  clear Q_BK138_e13
  have BK139 := Aside0.mk (Q_BK139_e14 hb14_)
  clear Q_BK139_e14
  clear hall hb0_ hb1_ hb2_ hb3_ hb4_ hb5_ hb6_ hb7_ hb8_ hb9_ hb10_ hb11_ hb12_ hb13_ hb14_
  go_upto_region 3 with (fail)
  go_cut [36] (fun v36 wc => ∃ (kq : Nat) (x36_5 : Bool), v36 = .bool x36_5 ∧ Aside0 (remontoirlaw08_TurnOrder.j0 kq (wrap64 (1 + (Int.tmod (wrap64 (a0)) 1000))) x36_5 t128 t129 t130 t131 t132 t133 t134 t135 t136 = some r) ∧ Aside0 (kq ≤ k) ∧ Aside0 (wc.heap[gb127]? = some (.cells #[.int .u16 a1_0, .int .u16 a1_1, .int .u16 a1_2, .int .u16 a1_3, .int .u16 a1_4, .int .u16 a1_5] 24 (0, 0))) ∧ Aside0 (wc.heap[gb137]? = some (.cells #[.int .i64 t128, .int .i64 t129, .int .i64 t130] 26 (0, 0))) ∧ Aside0 (wc.heap[gb138]? = some (.cells #[.int .i64 t131, .int .i64 t132, .int .i64 t133] 26 (0, 0))) ∧ Aside0 (wc.heap[gb139]? = some (.cells #[.int .i64 t134, .int .i64 t135, .int .i64 t136] 26 (0, 0))) ∧ Aside0 (Below w.heap.size w wc))
  case first =>
    have H := HC6.out
    clear HC6
    replace H := Option.bind_eq_some_iff.mp H
    obtain ⟨t140, A250, H⟩ := H
    replace H : ((turn_Less.f (wrap64 (1 + (Int.tmod (wrap64 (a0)) 1000))) t131 t132 t133 t128 t129 t130).bind fun t141 => (if (t140 == t141) = true then (remontoirlaw08_TurnOrder.j0 k (wrap64 (1 + (Int.tmod (wrap64 (a0)) 1000))) true t128 t129 t130 t131 t132 t133 t134 t135 t136) else ((turn_Less.f (wrap64 (1 + (Int.tmod (wrap64 (a0)) 1000))) t128 t129 t130 t128 t129 t130).bind fun t142 => (remontoirlaw08_TurnOrder.j0 k (wrap64 (1 + (Int.tmod (wrap64 (a0)) 1000))) t142 t128 t129 t130 t131 t132 t133 t134 t135 t136)))) = some r := H
    have A25 := Aside0.mk A250
    clear A250
    replace H := Option.bind_eq_some_iff.mp H
    obtain ⟨t141, A260, H⟩ := H
    replace H : (if (t140 == t141) = true then (remontoirlaw08_TurnOrder.j0 k (wrap64 (1 + (Int.tmod (wrap64 (a0)) 1000))) true t128 t129 t130 t131 t132 t133 t134 t135 t136) else ((turn_Less.f (wrap64 (1 + (Int.tmod (wrap64 (a0)) 1000))) t128 t129 t130 t128 t129 t130).bind fun t142 => (remontoirlaw08_TurnOrder.j0 k (wrap64 (1 + (Int.tmod (wrap64 (a0)) 1000))) t142 t128 t129 t130 t131 t132 t133 t134 t135 t136))) = some r := H
    have A26 := Aside0.mk A260
    clear A260
    by_cases c27 : (t140 == t141) = true
    · rw [if_pos c27] at H
      have c27b0 : (t140 == t141) = true := c27
      (try (have c27b1 : decide (t140 = t141) = true := by simpa using c27))
      (try (have c27b2 : (t140 == t141) = true := by simpa using c27))
      clear c27
      (first | rw [c27b0] | (simp only [i64_w, i32_w]; rw [c27b0]) | skip)
      have H' := Aside0.mk H
      clear H
      try go_wp2
      have n0_ := Aside0.mk (blk_drew BK127.out)
      have n1_ := Aside0.mk (blk_drew BK137.out)
      have n2_ := Aside0.mk (blk_drew BK138.out)
      have n3_ := Aside0.mk (blk_drew BK139.out)
      have n4_ := Aside0.mk (below_drew1 HB.out)
      clear BK127
      clear BK137
      clear BK138
      clear BK139
      clear HB
      have BK127 := n0_
      have BK137 := n1_
      have BK138 := n2_
      have BK139 := n3_
      have HB := n4_
      clear n0_ n1_ n2_ n3_ n4_
      refine start_ (n := 15) (S := fun w' => w'.cell? ⟨gb137, 0, none⟩ = some (.int .i64 t128) ∧ w'.cell? ⟨gb137, 1, none⟩ = some (.int .i64 t129) ∧ w'.cell? ⟨gb137, 2, none⟩ = some (.int .i64 t130) ∧ w'.cell? ⟨gb138, 0, none⟩ = some (.int .i64 t131) ∧ w'.cell? ⟨gb138, 1, none⟩ = some (.int .i64 t132) ∧ w'.cell? ⟨gb138, 2, none⟩ = some (.int .i64 t133)) (ds := []) #[false, false, false, false, false, false, false, false, false, false, false, false, false, false, false] (by kernel_rfl) rfl rfl ⟨(blk_cell BK137.out 0).trans rfl, (blk_cell BK137.out 1).trans rfl, (blk_cell BK137.out 2).trans rfl, (blk_cell BK138.out 0).trans rfl, (blk_cell BK138.out 1).trans rfl, (blk_cell BK138.out 2).trans rfl⟩ (fun hHeld => ?_); refine with_tabW remontoirlaw08_TurnOrder.tab3 remontoirlaw08_TurnOrder.bits3 (fun HT_ HW_ => ?_)
      generalize w24.drew = w28 at BK127 BK137 BK138 BK139 HB hHeld ⊢
      refine pure_ (i := 0) (N := some 22) (v := ?_) (a' := ?_) #[true, false, false, false, false, false, false, false, false, false, false, false, false, false, false] rfl rfl (any_of HT_.out (by kernel_rfl)) (fun _ _ _ h => h) (Or.inl ⟨by rfl, ?_⟩) ?_ ?_
      rotate_left
      · intro w'
        go_simp
        with_reducible rfl
      rotate_left
      · simp only [Act.put, List.setIfInBounds_toArray, List.set_cons_zero, List.set_cons_succ, i64_w, i32_w]
        rfl
      refine pure_ (i := 4) (N := some 26) (v := ?_) (a' := ?_) #[true, false, false, false, true, false, false, false, false, false, false, false, false, false, false] rfl rfl (any_of HT_.out (by kernel_rfl)) (fun _ _ _ h => h) (Or.inl ⟨by rfl, ?_⟩) ?_ ?_
      rotate_left
      · intro w'
        go_simp
        with_reducible rfl
      rotate_left
      · simp only [Act.put, List.setIfInBounds_toArray, List.set_cons_zero, List.set_cons_succ, i64_w, i32_w]
        rfl
      refine take_ (i := 1) (N := some 23) (v := ?_) (a' := ?_) #[true, true, false, false, true, false, false, false, false, false, false, false, false, false, false] rfl rfl (take_ofW HT_.out HW_.out (by kernel_rfl)) (fun _ _ _ h => h) (Or.inl ⟨by rfl, ?_⟩) hHeld ?_ ?_
      rotate_left
      · rintro w' ⟨s0, s1, s2, s3, s4, s5⟩
        go_simp
        with_reducible rfl
      rotate_left
      · simp only [Act.put, List.setIfInBounds_toArray, List.set_cons_zero, List.set_cons_succ, i64_w, i32_w]
        rfl
      refine take_ (i := 2) (N := some 24) (v := ?_) (a' := ?_) #[true, true, true, false, true, false, false, false, false, false, false, false, false, false, false] rfl rfl (take_ofW HT_.out HW_.out (by kernel_rfl)) (fun _ _ _ h => h) (Or.inl ⟨by rfl, ?_⟩) hHeld ?_ ?_
      rotate_left
      · rintro w' ⟨s0, s1, s2, s3, s4, s5⟩
        go_simp
        with_reducible rfl
      rotate_left
      · simp only [Act.put, List.setIfInBounds_toArray, List.set_cons_zero, List.set_cons_succ, i64_w, i32_w]
        rfl
      refine take_ (i := 5) (N := some 27) (v := ?_) (a' := ?_) #[true, true, true, false, true, true, false, false, false, false, false, false, false, false, false] rfl rfl (take_ofW HT_.out HW_.out (by kernel_rfl)) (fun _ _ _ h => h) (Or.inl ⟨by rfl, ?_⟩) hHeld ?_ ?_
      rotate_left
      · rintro w' ⟨s0, s1, s2, s3, s4, s5⟩
        go_simp
        with_reducible rfl
      rotate_left
      · simp only [Act.put, List.setIfInBounds_toArray, List.set_cons_zero, List.set_cons_succ, i64_w, i32_w]
        rfl
      refine take_ (i := 6) (N := some 28) (v := ?_) (a' := ?_) #[true, true, true, false, true, true, true, false, false, false, false, false, false, false, false] rfl rfl (take_ofW HT_.out HW_.out (by kernel_rfl)) (fun _ _ _ h => h) (Or.inl ⟨by rfl, ?_⟩) hHeld ?_ ?_
      rotate_left
      · rintro w' ⟨s0, s1, s2, s3, s4, s5⟩
        go_simp
        with_reducible rfl
      rotate_left
      · simp only [Act.put, List.setIfInBounds_toArray, List.set_cons_zero, List.set_cons_succ, i64_w, i32_w]
        rfl
      refine one_ (i := 3) (N := some 25) #[true, true, true, true, true, true, true, false, false, false, false, false, false, false, false] rfl rfl (one_of HT_.out (by kernel_rfl)) (by decide) (fun K hK => ?_)
      refine goes_ Try.func9 (by kernel_rfl) rfl #[.int .i64 (wrap64 (1 + (Int.tmod (wrap64 (a0)) 1000))), .agg #[.int .i64 t128, .int .i64 t129, .int .i64 t130], .agg #[.int .i64 t131, .int .i64 t132, .int .i64 t133]] (by rfl) rfl rfl (by (try simp only [List.map_toArray, List.map_cons, List.map_nil]); first | done | rfl | (simp only [List.length_drop, List.length_take]; rfl)) ?_
      with_reducible refine (turn_Less.calls (wrap64 (1 + (Int.tmod (wrap64 (a0)) 1000))) t128 t129 t130 t131 t132 t133 t140 _ A25.out).mono ?_
      rintro e w29 ⟨rfl, hb⟩
      refine ⟨_, rfl, ?_⟩
      have n0_ := Aside0.mk (blk_below (g := gb127) (o := .cells #[.int .u16 a1_0, .int .u16 a1_1, .int .u16 a1_2, .int .u16 a1_3, .int .u16 a1_4, .int .u16 a1_5] 24 (0, 0)) (by (with_reducible repeat (first | refine blk_drewN ?_ _ | refine blk_drew ?_ | refine blk_alloc ?_ _)); exact BK127.out) hb)
      have n1_ := Aside0.mk (blk_below (g := gb137) (o := .cells #[.int .i64 t128, .int .i64 t129, .int .i64 t130] 26 (0, 0)) (by (with_reducible repeat (first | refine blk_drewN ?_ _ | refine blk_drew ?_ | refine blk_alloc ?_ _)); exact BK137.out) hb)
      have n2_ := Aside0.mk (blk_below (g := gb138) (o := .cells #[.int .i64 t131, .int .i64 t132, .int .i64 t133] 26 (0, 0)) (by (with_reducible repeat (first | refine blk_drewN ?_ _ | refine blk_drew ?_ | refine blk_alloc ?_ _)); exact BK138.out) hb)
      have n3_ := Aside0.mk (blk_below (g := gb139) (o := .cells #[.int .i64 t134, .int .i64 t135, .int .i64 t136] 26 (0, 0)) (by (with_reducible repeat (first | refine blk_drewN ?_ _ | refine blk_drew ?_ | refine blk_alloc ?_ _)); exact BK139.out) hb)
      have n4_ := Aside0.mk (below_step (by repeat (first | (with_reducible first | exact HB.out | apply below_alloc | apply pw_below_drewN | apply below_drew1 | refine below_set ?_ GE127.out | refine below_set ?_ GE137.out | refine below_set ?_ GE138.out | refine below_set ?_ GE139.out) | exact HB.out)) hb)
      clear BK127
      clear BK137
      clear BK138
      clear BK139
      clear HB
      have BK127 := n0_
      have BK137 := n1_
      have BK138 := n2_
      have BK139 := n3_
      have HB := n4_
      clear n0_ n1_ n2_ n3_ n4_
      (try clear hb)
      (try clear hb2)
      (try clear hk)
      (try clear hi)
      refine hK.out _ _ ⟨(blk_cell BK137.out 0).trans rfl, (blk_cell BK137.out 1).trans rfl, (blk_cell BK137.out 2).trans rfl, (blk_cell BK138.out 0).trans rfl, (blk_cell BK138.out 1).trans rfl, (blk_cell BK138.out 2).trans rfl⟩ (fun hHeld => ?_)
      clear hK K
      refine norm_ (a' := ?_) ?_ ?_
      rotate_left
      · show Act.put _ (some 25) _ = _
        simp only [Act.put, List.setIfInBounds_toArray, List.set_cons_zero, List.set_cons_succ, i64_w, i32_w]
        rfl
      refine one_ (i := 7) (N := some 29) #[true, true, true, true, true, true, true, true, false, false, false, false, false, false, false] rfl rfl (one_of HT_.out (by kernel_rfl)) (by decide) (fun K hK => ?_)
      refine goes_ Try.func9 (by kernel_rfl) rfl #[.int .i64 (wrap64 (1 + (Int.tmod (wrap64 (a0)) 1000))), .agg #[.int .i64 t131, .int .i64 t132, .int .i64 t133], .agg #[.int .i64 t128, .int .i64 t129, .int .i64 t130]] (by rfl) rfl rfl (by (try simp only [List.map_toArray, List.map_cons, List.map_nil]); first | done | rfl | (simp only [List.length_drop, List.length_take]; rfl)) ?_
      with_reducible refine (turn_Less.calls (wrap64 (1 + (Int.tmod (wrap64 (a0)) 1000))) t131 t132 t133 t128 t129 t130 t141 _ A26.out).mono ?_
      rintro e w30 ⟨rfl, hb⟩
      refine ⟨_, rfl, ?_⟩
      have n0_ := Aside0.mk (blk_below (g := gb127) (o := .cells #[.int .u16 a1_0, .int .u16 a1_1, .int .u16 a1_2, .int .u16 a1_3, .int .u16 a1_4, .int .u16 a1_5] 24 (0, 0)) (by (with_reducible repeat (first | refine blk_drewN ?_ _ | refine blk_drew ?_ | refine blk_alloc ?_ _)); exact BK127.out) hb)
      have n1_ := Aside0.mk (blk_below (g := gb137) (o := .cells #[.int .i64 t128, .int .i64 t129, .int .i64 t130] 26 (0, 0)) (by (with_reducible repeat (first | refine blk_drewN ?_ _ | refine blk_drew ?_ | refine blk_alloc ?_ _)); exact BK137.out) hb)
      have n2_ := Aside0.mk (blk_below (g := gb138) (o := .cells #[.int .i64 t131, .int .i64 t132, .int .i64 t133] 26 (0, 0)) (by (with_reducible repeat (first | refine blk_drewN ?_ _ | refine blk_drew ?_ | refine blk_alloc ?_ _)); exact BK138.out) hb)
      have n3_ := Aside0.mk (blk_below (g := gb139) (o := .cells #[.int .i64 t134, .int .i64 t135, .int .i64 t136] 26 (0, 0)) (by (with_reducible repeat (first | refine blk_drewN ?_ _ | refine blk_drew ?_ | refine blk_alloc ?_ _)); exact BK139.out) hb)
      have n4_ := Aside0.mk (below_step (by repeat (first | (with_reducible first | exact HB.out | apply below_alloc | apply pw_below_drewN | apply below_drew1 | refine below_set ?_ GE127.out | refine below_set ?_ GE137.out | refine below_set ?_ GE138.out | refine below_set ?_ GE139.out) | exact HB.out)) hb)
      clear BK127
      clear BK137
      clear BK138
      clear BK139
      clear HB
      have BK127 := n0_
      have BK137 := n1_
      have BK138 := n2_
      have BK139 := n3_
      have HB := n4_
      clear n0_ n1_ n2_ n3_ n4_
      (try clear hb)
      (try clear hb2)
      (try clear hk)
      (try clear hi)
      refine hK.out _ _ ⟨(blk_cell BK137.out 0).trans rfl, (blk_cell BK137.out 1).trans rfl, (blk_cell BK137.out 2).trans rfl, (blk_cell BK138.out 0).trans rfl, (blk_cell BK138.out 1).trans rfl, (blk_cell BK138.out 2).trans rfl⟩ (fun hHeld => ?_)
      clear hK K
      refine norm_ (a' := ?_) ?_ ?_
      rotate_left
      · show Act.put _ (some 29) _ = _
        simp only [Act.put, List.setIfInBounds_toArray, List.set_cons_zero, List.set_cons_succ, i64_w, i32_w]
        rfl
      refine pure_ (i := 8) (N := some 30) (v := ?_) (a' := ?_) #[true, true, true, true, true, true, true, true, true, false, false, false, false, false, false] rfl rfl (any_of HT_.out (by kernel_rfl)) (fun _ _ _ h => h) (Or.inl ⟨by rfl, ?_⟩) ?_ ?_
      rotate_left
      · intro w'
        go_simp
        with_reducible rfl
      rotate_left
      · simp only [Act.put, List.setIfInBounds_toArray, List.set_cons_zero, List.set_cons_succ, i64_w, i32_w]
        rfl
      refine pure_ (i := 9) (N := some 31) (v := ?_) (a' := ?_) #[true, true, true, true, true, true, true, true, true, true, false, false, false, false, false] rfl rfl (any_of HT_.out (by kernel_rfl)) (fun _ _ _ h => h) (Or.inl ⟨by rfl, ?_⟩) ?_ ?_
      rotate_left
      · intro w'
        go_simp
        with_reducible rfl
      rotate_left
      · simp only [Act.put, List.setIfInBounds_toArray, List.set_cons_zero, List.set_cons_succ, i64_w, i32_w]
        rfl
      refine pure_ (i := 10) (N := some 32) (v := undef) (a' := ?_) #[true, true, true, true, true, true, true, true, true, true, true, false, false, false, false] rfl rfl (any_of HT_.out (by kernel_rfl)) (fun _ _ _ h => h) (Or.inr ⟨by rfl, rfl⟩) ?_ ?_
      rotate_left
      · simp only [Act.put, List.setIfInBounds_toArray, List.set_cons_zero, List.set_cons_succ, i64_w, i32_w]
        rfl
      refine pure_ (i := 11) (N := some 33) (v := undef) (a' := ?_) #[true, true, true, true, true, true, true, true, true, true, true, true, false, false, false] rfl rfl (any_of HT_.out (by kernel_rfl)) (fun _ _ _ h => h) (Or.inr ⟨by rfl, rfl⟩) ?_ ?_
      rotate_left
      · simp only [Act.put, List.setIfInBounds_toArray, List.set_cons_zero, List.set_cons_succ, i64_w, i32_w]
        rfl
      refine pure_ (i := 12) (N := some 34) (v := undef) (a' := ?_) #[true, true, true, true, true, true, true, true, true, true, true, true, true, false, false] rfl rfl (any_of HT_.out (by kernel_rfl)) (fun _ _ _ h => h) (Or.inr ⟨by rfl, rfl⟩) ?_ ?_
      rotate_left
      · simp only [Act.put, List.setIfInBounds_toArray, List.set_cons_zero, List.set_cons_succ, i64_w, i32_w]
        rfl
      refine pure_ (i := 13) (N := some 35) (v := undef) (a' := ?_) #[true, true, true, true, true, true, true, true, true, true, true, true, true, true, false] rfl rfl (any_of HT_.out (by kernel_rfl)) (fun _ _ _ h => h) (Or.inr ⟨by rfl, rfl⟩) ?_ ?_
      rotate_left
      · simp only [Act.put, List.setIfInBounds_toArray, List.set_cons_zero, List.set_cons_succ, i64_w, i32_w]
        rfl
      refine pure_ (i := 14) (N := some 36) (v := ?_) (a' := ?_) #[true, true, true, true, true, true, true, true, true, true, true, true, true, true, true] rfl rfl (any_of HT_.out (by kernel_rfl)) (fun _ _ _ h => h) (Or.inl ⟨by rfl, ?_⟩) ?_ ?_
      rotate_left
      · intro w'
        go_simp
        with_reducible rfl
      rotate_left
      · simp only [Act.put, List.setIfInBounds_toArray, List.set_cons_zero, List.set_cons_succ, i64_w, i32_w]
        rfl
      refine done_ (done_of HT_.out (by kernel_rfl)) ?_
      try go_wp2
      go_meet
      case rel => exact ⟨_, (true), (by first | rfl | (simp; done) | (simp [*]; done)), H', ⟨by first | omega | exact Nat.le_refl _⟩, ⟨by (with_reducible repeat (first | refine blk_drewN ?_ _ | refine blk_drew ?_ | refine blk_alloc ?_ _)); exact BK127.out⟩, ⟨by (with_reducible repeat (first | refine blk_drewN ?_ _ | refine blk_drew ?_ | refine blk_alloc ?_ _)); exact BK137.out⟩, ⟨by (with_reducible repeat (first | refine blk_drewN ?_ _ | refine blk_drew ?_ | refine blk_alloc ?_ _)); exact BK138.out⟩, ⟨by (with_reducible repeat (first | refine blk_drewN ?_ _ | refine blk_drew ?_ | refine blk_alloc ?_ _)); exact BK139.out⟩, ⟨by repeat (first | (with_reducible first | exact HB.out | apply below_alloc | apply pw_below_drewN | apply below_drew1 | refine below_set ?_ GE127.out | refine below_set ?_ GE137.out | refine below_set ?_ GE138.out | refine below_set ?_ GE139.out) | exact HB.out)⟩⟩
    · rw [if_neg c27] at H
      have c27b0 : (t140 == t141) = false := by simpa using c27
      (try (have c27b1 : decide (t140 = t141) = false := by simpa using c27))
      (try (have c27b2 : (t140 == t141) = false := by simpa using c27))
      (try (have c27b3 : ¬ (t140 = t141) := by simpa using c27))
      clear c27
      (first | rw [c27b0] | (simp only [i64_w, i32_w]; rw [c27b0]) | skip)
      replace H := Option.bind_eq_some_iff.mp H
      obtain ⟨t142, A310, H⟩ := H
      replace H : (remontoirlaw08_TurnOrder.j0 k (wrap64 (1 + (Int.tmod (wrap64 (a0)) 1000))) t142 t128 t129 t130 t131 t132 t133 t134 t135 t136) = some r := H
      have A31 := Aside0.mk A310
      clear A310
      have H' := Aside0.mk H
      clear H
      try go_wp2
      have n0_ := Aside0.mk (blk_drew BK127.out)
      have n1_ := Aside0.mk (blk_drew BK137.out)
      have n2_ := Aside0.mk (blk_drew BK138.out)
      have n3_ := Aside0.mk (blk_drew BK139.out)
      have n4_ := Aside0.mk (below_drew1 HB.out)
      clear BK127
      clear BK137
      clear BK138
      clear BK139
      clear HB
      have BK127 := n0_
      have BK137 := n1_
      have BK138 := n2_
      have BK139 := n3_
      have HB := n4_
      clear n0_ n1_ n2_ n3_ n4_
      refine start_ (n := 15) (S := fun w' => w'.cell? ⟨gb137, 0, none⟩ = some (.int .i64 t128) ∧ w'.cell? ⟨gb137, 1, none⟩ = some (.int .i64 t129) ∧ w'.cell? ⟨gb137, 2, none⟩ = some (.int .i64 t130) ∧ w'.cell? ⟨gb138, 0, none⟩ = some (.int .i64 t131) ∧ w'.cell? ⟨gb138, 1, none⟩ = some (.int .i64 t132) ∧ w'.cell? ⟨gb138, 2, none⟩ = some (.int .i64 t133)) (ds := []) #[false, false, false, false, false, false, false, false, false, false, false, false, false, false, false] (by kernel_rfl) rfl rfl ⟨(blk_cell BK137.out 0).trans rfl, (blk_cell BK137.out 1).trans rfl, (blk_cell BK137.out 2).trans rfl, (blk_cell BK138.out 0).trans rfl, (blk_cell BK138.out 1).trans rfl, (blk_cell BK138.out 2).trans rfl⟩ (fun hHeld => ?_); refine with_tabW remontoirlaw08_TurnOrder.tab3 remontoirlaw08_TurnOrder.bits3 (fun HT_ HW_ => ?_)
      generalize w24.drew = w32 at BK127 BK137 BK138 BK139 HB hHeld ⊢
      refine pure_ (i := 0) (N := some 22) (v := ?_) (a' := ?_) #[true, false, false, false, false, false, false, false, false, false, false, false, false, false, false] rfl rfl (any_of HT_.out (by kernel_rfl)) (fun _ _ _ h => h) (Or.inl ⟨by rfl, ?_⟩) ?_ ?_
      rotate_left
      · intro w'
        go_simp
        with_reducible rfl
      rotate_left
      · simp only [Act.put, List.setIfInBounds_toArray, List.set_cons_zero, List.set_cons_succ, i64_w, i32_w]
        rfl
      refine pure_ (i := 4) (N := some 26) (v := ?_) (a' := ?_) #[true, false, false, false, true, false, false, false, false, false, false, false, false, false, false] rfl rfl (any_of HT_.out (by kernel_rfl)) (fun _ _ _ h => h) (Or.inl ⟨by rfl, ?_⟩) ?_ ?_
      rotate_left
      · intro w'
        go_simp
        with_reducible rfl
      rotate_left
      · simp only [Act.put, List.setIfInBounds_toArray, List.set_cons_zero, List.set_cons_succ, i64_w, i32_w]
        rfl
      refine take_ (i := 1) (N := some 23) (v := ?_) (a' := ?_) #[true, true, false, false, true, false, false, false, false, false, false, false, false, false, false] rfl rfl (take_ofW HT_.out HW_.out (by kernel_rfl)) (fun _ _ _ h => h) (Or.inl ⟨by rfl, ?_⟩) hHeld ?_ ?_
      rotate_left
      · rintro w' ⟨s0, s1, s2, s3, s4, s5⟩
        go_simp
        with_reducible rfl
      rotate_left
      · simp only [Act.put, List.setIfInBounds_toArray, List.set_cons_zero, List.set_cons_succ, i64_w, i32_w]
        rfl
      refine take_ (i := 2) (N := some 24) (v := ?_) (a' := ?_) #[true, true, true, false, true, false, false, false, false, false, false, false, false, false, false] rfl rfl (take_ofW HT_.out HW_.out (by kernel_rfl)) (fun _ _ _ h => h) (Or.inl ⟨by rfl, ?_⟩) hHeld ?_ ?_
      rotate_left
      · rintro w' ⟨s0, s1, s2, s3, s4, s5⟩
        go_simp
        with_reducible rfl
      rotate_left
      · simp only [Act.put, List.setIfInBounds_toArray, List.set_cons_zero, List.set_cons_succ, i64_w, i32_w]
        rfl
      refine take_ (i := 5) (N := some 27) (v := ?_) (a' := ?_) #[true, true, true, false, true, true, false, false, false, false, false, false, false, false, false] rfl rfl (take_ofW HT_.out HW_.out (by kernel_rfl)) (fun _ _ _ h => h) (Or.inl ⟨by rfl, ?_⟩) hHeld ?_ ?_
      rotate_left
      · rintro w' ⟨s0, s1, s2, s3, s4, s5⟩
        go_simp
        with_reducible rfl
      rotate_left
      · simp only [Act.put, List.setIfInBounds_toArray, List.set_cons_zero, List.set_cons_succ, i64_w, i32_w]
        rfl
      refine take_ (i := 6) (N := some 28) (v := ?_) (a' := ?_) #[true, true, true, false, true, true, true, false, false, false, false, false, false, false, false] rfl rfl (take_ofW HT_.out HW_.out (by kernel_rfl)) (fun _ _ _ h => h) (Or.inl ⟨by rfl, ?_⟩) hHeld ?_ ?_
      rotate_left
      · rintro w' ⟨s0, s1, s2, s3, s4, s5⟩
        go_simp
        with_reducible rfl
      rotate_left
      · simp only [Act.put, List.setIfInBounds_toArray, List.set_cons_zero, List.set_cons_succ, i64_w, i32_w]
        rfl
      refine one_ (i := 3) (N := some 25) #[true, true, true, true, true, true, true, false, false, false, false, false, false, false, false] rfl rfl (one_of HT_.out (by kernel_rfl)) (by decide) (fun K hK => ?_)
      refine goes_ Try.func9 (by kernel_rfl) rfl #[.int .i64 (wrap64 (1 + (Int.tmod (wrap64 (a0)) 1000))), .agg #[.int .i64 t128, .int .i64 t129, .int .i64 t130], .agg #[.int .i64 t131, .int .i64 t132, .int .i64 t133]] (by rfl) rfl rfl (by (try simp only [List.map_toArray, List.map_cons, List.map_nil]); first | done | rfl | (simp only [List.length_drop, List.length_take]; rfl)) ?_
      with_reducible refine (turn_Less.calls (wrap64 (1 + (Int.tmod (wrap64 (a0)) 1000))) t128 t129 t130 t131 t132 t133 t140 _ A25.out).mono ?_
      rintro e w33 ⟨rfl, hb⟩
      refine ⟨_, rfl, ?_⟩
      have n0_ := Aside0.mk (blk_below (g := gb127) (o := .cells #[.int .u16 a1_0, .int .u16 a1_1, .int .u16 a1_2, .int .u16 a1_3, .int .u16 a1_4, .int .u16 a1_5] 24 (0, 0)) (by (with_reducible repeat (first | refine blk_drewN ?_ _ | refine blk_drew ?_ | refine blk_alloc ?_ _)); exact BK127.out) hb)
      have n1_ := Aside0.mk (blk_below (g := gb137) (o := .cells #[.int .i64 t128, .int .i64 t129, .int .i64 t130] 26 (0, 0)) (by (with_reducible repeat (first | refine blk_drewN ?_ _ | refine blk_drew ?_ | refine blk_alloc ?_ _)); exact BK137.out) hb)
      have n2_ := Aside0.mk (blk_below (g := gb138) (o := .cells #[.int .i64 t131, .int .i64 t132, .int .i64 t133] 26 (0, 0)) (by (with_reducible repeat (first | refine blk_drewN ?_ _ | refine blk_drew ?_ | refine blk_alloc ?_ _)); exact BK138.out) hb)
      have n3_ := Aside0.mk (blk_below (g := gb139) (o := .cells #[.int .i64 t134, .int .i64 t135, .int .i64 t136] 26 (0, 0)) (by (with_reducible repeat (first | refine blk_drewN ?_ _ | refine blk_drew ?_ | refine blk_alloc ?_ _)); exact BK139.out) hb)
      have n4_ := Aside0.mk (below_step (by repeat (first | (with_reducible first | exact HB.out | apply below_alloc | apply pw_below_drewN | apply below_drew1 | refine below_set ?_ GE127.out | refine below_set ?_ GE137.out | refine below_set ?_ GE138.out | refine below_set ?_ GE139.out) | exact HB.out)) hb)
      clear BK127
      clear BK137
      clear BK138
      clear BK139
      clear HB
      have BK127 := n0_
      have BK137 := n1_
      have BK138 := n2_
      have BK139 := n3_
      have HB := n4_
      clear n0_ n1_ n2_ n3_ n4_
      (try clear hb)
      (try clear hb2)
      (try clear hk)
      (try clear hi)
      refine hK.out _ _ ⟨(blk_cell BK137.out 0).trans rfl, (blk_cell BK137.out 1).trans rfl, (blk_cell BK137.out 2).trans rfl, (blk_cell BK138.out 0).trans rfl, (blk_cell BK138.out 1).trans rfl, (blk_cell BK138.out 2).trans rfl⟩ (fun hHeld => ?_)
      clear hK K
      refine norm_ (a' := ?_) ?_ ?_
      rotate_left
      · show Act.put _ (some 25) _ = _
        simp only [Act.put, List.setIfInBounds_toArray, List.set_cons_zero, List.set_cons_succ, i64_w, i32_w]
        rfl
      refine one_ (i := 7) (N := some 29) #[true, true, true, true, true, true, true, true, false, false, false, false, false, false, false] rfl rfl (one_of HT_.out (by kernel_rfl)) (by decide) (fun K hK => ?_)
      refine goes_ Try.func9 (by kernel_rfl) rfl #[.int .i64 (wrap64 (1 + (Int.tmod (wrap64 (a0)) 1000))), .agg #[.int .i64 t131, .int .i64 t132, .int .i64 t133], .agg #[.int .i64 t128, .int .i64 t129, .int .i64 t130]] (by rfl) rfl rfl (by (try simp only [List.map_toArray, List.map_cons, List.map_nil]); first | done | rfl | (simp only [List.length_drop, List.length_take]; rfl)) ?_
      with_reducible refine (turn_Less.calls (wrap64 (1 + (Int.tmod (wrap64 (a0)) 1000))) t131 t132 t133 t128 t129 t130 t141 _ A26.out).mono ?_
      rintro e w34 ⟨rfl, hb⟩
      refine ⟨_, rfl, ?_⟩
      have n0_ := Aside0.mk (blk_below (g := gb127) (o := .cells #[.int .u16 a1_0, .int .u16 a1_1, .int .u16 a1_2, .int .u16 a1_3, .int .u16 a1_4, .int .u16 a1_5] 24 (0, 0)) (by (with_reducible repeat (first | refine blk_drewN ?_ _ | refine blk_drew ?_ | refine blk_alloc ?_ _)); exact BK127.out) hb)
      have n1_ := Aside0.mk (blk_below (g := gb137) (o := .cells #[.int .i64 t128, .int .i64 t129, .int .i64 t130] 26 (0, 0)) (by (with_reducible repeat (first | refine blk_drewN ?_ _ | refine blk_drew ?_ | refine blk_alloc ?_ _)); exact BK137.out) hb)
      have n2_ := Aside0.mk (blk_below (g := gb138) (o := .cells #[.int .i64 t131, .int .i64 t132, .int .i64 t133] 26 (0, 0)) (by (with_reducible repeat (first | refine blk_drewN ?_ _ | refine blk_drew ?_ | refine blk_alloc ?_ _)); exact BK138.out) hb)
      have n3_ := Aside0.mk (blk_below (g := gb139) (o := .cells #[.int .i64 t134, .int .i64 t135, .int .i64 t136] 26 (0, 0)) (by (with_reducible repeat (first | refine blk_drewN ?_ _ | refine blk_drew ?_ | refine blk_alloc ?_ _)); exact BK139.out) hb)
      have n4_ := Aside0.mk (below_step (by repeat (first | (with_reducible first | exact HB.out | apply below_alloc | apply pw_below_drewN | apply below_drew1 | refine below_set ?_ GE127.out | refine below_set ?_ GE137.out | refine below_set ?_ GE138.out | refine below_set ?_ GE139.out) | exact HB.out)) hb)
      clear BK127
      clear BK137
      clear BK138
      clear BK139
      clear HB
      have BK127 := n0_
      have BK137 := n1_
      have BK138 := n2_
      have BK139 := n3_
      have HB := n4_
      clear n0_ n1_ n2_ n3_ n4_
      (try clear hb)
      (try clear hb2)
      (try clear hk)
      (try clear hi)
      refine hK.out _ _ ⟨(blk_cell BK137.out 0).trans rfl, (blk_cell BK137.out 1).trans rfl, (blk_cell BK137.out 2).trans rfl, (blk_cell BK138.out 0).trans rfl, (blk_cell BK138.out 1).trans rfl, (blk_cell BK138.out 2).trans rfl⟩ (fun hHeld => ?_)
      clear hK K
      refine norm_ (a' := ?_) ?_ ?_
      rotate_left
      · show Act.put _ (some 29) _ = _
        simp only [Act.put, List.setIfInBounds_toArray, List.set_cons_zero, List.set_cons_succ, i64_w, i32_w]
        rfl
      refine pure_ (i := 8) (N := some 30) (v := ?_) (a' := ?_) #[true, true, true, true, true, true, true, true, true, false, false, false, false, false, false] rfl rfl (any_of HT_.out (by kernel_rfl)) (fun _ _ _ h => h) (Or.inl ⟨by rfl, ?_⟩) ?_ ?_
      rotate_left
      · intro w'
        go_simp
        with_reducible rfl
      rotate_left
      · simp only [Act.put, List.setIfInBounds_toArray, List.set_cons_zero, List.set_cons_succ, i64_w, i32_w]
        rfl
      refine pure_ (i := 9) (N := some 31) (v := ?_) (a' := ?_) #[true, true, true, true, true, true, true, true, true, true, false, false, false, false, false] rfl rfl (any_of HT_.out (by kernel_rfl)) (fun _ _ _ h => h) (Or.inl ⟨by rfl, ?_⟩) ?_ ?_
      rotate_left
      · intro w'
        go_simp
        with_reducible rfl
      rotate_left
      · simp only [Act.put, List.setIfInBounds_toArray, List.set_cons_zero, List.set_cons_succ, i64_w, i32_w]
        rfl
      refine pure_ (i := 10) (N := some 32) (v := ?_) (a' := ?_) #[true, true, true, true, true, true, true, true, true, true, true, false, false, false, false] rfl rfl (any_of HT_.out (by kernel_rfl)) (fun _ _ _ h => h) (Or.inl ⟨by rfl, ?_⟩) ?_ ?_
      rotate_left
      · intro w'
        go_simp
        with_reducible rfl
      rotate_left
      · simp only [Act.put, List.setIfInBounds_toArray, List.set_cons_zero, List.set_cons_succ, i64_w, i32_w]
        rfl
      refine take_ (i := 11) (N := some 33) (v := ?_) (a' := ?_) #[true, true, true, true, true, true, true, true, true, true, true, true, false, false, false] rfl rfl (take_ofW HT_.out HW_.out (by kernel_rfl)) (fun _ _ _ h => h) (Or.inl ⟨by rfl, ?_⟩) hHeld ?_ ?_
      rotate_left
      · rintro w' ⟨s0, s1, s2, s3, s4, s5⟩
        go_simp
        with_reducible rfl
      rotate_left
      · simp only [Act.put, List.setIfInBounds_toArray, List.set_cons_zero, List.set_cons_succ, i64_w, i32_w]
        rfl
      refine take_ (i := 12) (N := some 34) (v := ?_) (a' := ?_) #[true, true, true, true, true, true, true, true, true, true, true, true, true, false, false] rfl rfl (take_ofW HT_.out HW_.out (by kernel_rfl)) (fun _ _ _ h => h) (Or.inl ⟨by rfl, ?_⟩) hHeld ?_ ?_
      rotate_left
      · rintro w' ⟨s0, s1, s2, s3, s4, s5⟩
        go_simp
        with_reducible rfl
      rotate_left
      · simp only [Act.put, List.setIfInBounds_toArray, List.set_cons_zero, List.set_cons_succ, i64_w, i32_w]
        rfl
      refine one_ (i := 13) (N := some 35) #[true, true, true, true, true, true, true, true, true, true, true, true, true, true, false] rfl rfl (one_of HT_.out (by kernel_rfl)) (by decide) (fun K hK => ?_)
      refine goes_ Try.func9 (by kernel_rfl) rfl #[.int .i64 (wrap64 (1 + (Int.tmod (wrap64 (a0)) 1000))), .agg #[.int .i64 t128, .int .i64 t129, .int .i64 t130], .agg #[.int .i64 t128, .int .i64 t129, .int .i64 t130]] (by rfl) rfl rfl (by (try simp only [List.map_toArray, List.map_cons, List.map_nil]); first | done | rfl | (simp only [List.length_drop, List.length_take]; rfl)) ?_
      with_reducible refine (turn_Less.calls (wrap64 (1 + (Int.tmod (wrap64 (a0)) 1000))) t128 t129 t130 t128 t129 t130 t142 _ A31.out).mono ?_
      rintro e w35 ⟨rfl, hb⟩
      refine ⟨_, rfl, ?_⟩
      have n0_ := Aside0.mk (blk_below (g := gb127) (o := .cells #[.int .u16 a1_0, .int .u16 a1_1, .int .u16 a1_2, .int .u16 a1_3, .int .u16 a1_4, .int .u16 a1_5] 24 (0, 0)) (by (with_reducible repeat (first | refine blk_drewN ?_ _ | refine blk_drew ?_ | refine blk_alloc ?_ _)); exact BK127.out) hb)
      have n1_ := Aside0.mk (blk_below (g := gb137) (o := .cells #[.int .i64 t128, .int .i64 t129, .int .i64 t130] 26 (0, 0)) (by (with_reducible repeat (first | refine blk_drewN ?_ _ | refine blk_drew ?_ | refine blk_alloc ?_ _)); exact BK137.out) hb)
      have n2_ := Aside0.mk (blk_below (g := gb138) (o := .cells #[.int .i64 t131, .int .i64 t132, .int .i64 t133] 26 (0, 0)) (by (with_reducible repeat (first | refine blk_drewN ?_ _ | refine blk_drew ?_ | refine blk_alloc ?_ _)); exact BK138.out) hb)
      have n3_ := Aside0.mk (blk_below (g := gb139) (o := .cells #[.int .i64 t134, .int .i64 t135, .int .i64 t136] 26 (0, 0)) (by (with_reducible repeat (first | refine blk_drewN ?_ _ | refine blk_drew ?_ | refine blk_alloc ?_ _)); exact BK139.out) hb)
      have n4_ := Aside0.mk (below_step (by repeat (first | (with_reducible first | exact HB.out | apply below_alloc | apply pw_below_drewN | apply below_drew1 | refine below_set ?_ GE127.out | refine below_set ?_ GE137.out | refine below_set ?_ GE138.out | refine below_set ?_ GE139.out) | exact HB.out)) hb)
      clear BK127
      clear BK137
      clear BK138
      clear BK139
      clear HB
      have BK127 := n0_
      have BK137 := n1_
      have BK138 := n2_
      have BK139 := n3_
      have HB := n4_
      clear n0_ n1_ n2_ n3_ n4_
      (try clear hb)
      (try clear hb2)
      (try clear hk)
      (try clear hi)
      refine hK.out _ _ ⟨(blk_cell BK137.out 0).trans rfl, (blk_cell BK137.out 1).trans rfl, (blk_cell BK137.out 2).trans rfl, (blk_cell BK138.out 0).trans rfl, (blk_cell BK138.out 1).trans rfl, (blk_cell BK138.out 2).trans rfl⟩ (fun hHeld => ?_)
      clear hK K
      refine norm_ (a' := ?_) ?_ ?_
      rotate_left
      · show Act.put _ (some 35) _ = _
        simp only [Act.put, List.setIfInBounds_toArray, List.set_cons_zero, List.set_cons_succ, i64_w, i32_w]
        rfl
      refine pure_ (i := 14) (N := some 36) (v := ?_) (a' := ?_) #[true, true, true, true, true, true, true, true, true, true, true, true, true, true, true] rfl rfl (any_of HT_.out (by kernel_rfl)) (fun _ _ _ h => h) (Or.inl ⟨by rfl, ?_⟩) ?_ ?_
      rotate_left
      · intro w'
        go_simp
        with_reducible rfl
      rotate_left
      · simp only [Act.put, List.setIfInBounds_toArray, List.set_cons_zero, List.set_cons_succ, i64_w, i32_w]
        rfl
      refine done_ (done_of HT_.out (by kernel_rfl)) ?_
      try go_wp2
      go_meet
      case rel => exact ⟨_, (t142), (by first | rfl | (simp; done) | (simp [*]; done)), H', ⟨by first | omega | exact Nat.le_refl _⟩, ⟨by (with_reducible repeat (first | refine blk_drewN ?_ _ | refine blk_drew ?_ | refine blk_alloc ?_ _)); exact BK127.out⟩, ⟨by (with_reducible repeat (first | refine blk_drewN ?_ _ | refine blk_drew ?_ | refine blk_alloc ?_ _)); exact BK137.out⟩, ⟨by (with_reducible repeat (first | refine blk_drewN ?_ _ | refine blk_drew ?_ | refine blk_alloc ?_ _)); exact BK138.out⟩, ⟨by (with_reducible repeat (first | refine blk_drewN ?_ _ | refine blk_drew ?_ | refine blk_alloc ?_ _)); exact BK139.out⟩, ⟨by repeat (first | (with_reducible first | exact HB.out | apply below_alloc | apply pw_below_drewN | apply below_drew1 | refine below_set ?_ GE127.out | refine below_set ?_ GE137.out | refine below_set ?_ GE138.out | refine below_set ?_ GE139.out) | exact HB.out)⟩⟩
  case rest =>
    clear HC6
    try clear c2
    try clear p2
    try clear p6
    try clear c9
    try clear c27
    try clear c27b0
    try clear c27b1
    try clear c27b2
    obtain ⟨kq, x36_5, rfl, HA, HJ5, BK127, BK137, BK138, BK139, HB⟩ := hcut
    cases kq with
    | zero => exact absurd HA.out (by simp [remontoirlaw08_TurnOrder.j0])
    | succ kj5 =>
      have H := HA.out
      clear HA
      simp only [remontoirlaw08_TurnOrder.j0] at H
      by_cases c36 : x36_5 = true
      · subst c36
        have H1 : (none) = some r := by rw [if_pos rfl] at H; exact H
        clear H
        have H := H1
        clear H1
        exact absurd H (by simp)
      · replace c36 := Bool.eq_false_iff.mpr c36
        subst c36
        have H1 : ((turn_Less.f (wrap64 (1 + (Int.tmod (wrap64 (a0)) 1000))) t128 t129 t130 t131 t132 t133).bind fun t143 => (if t143 = true then ((turn_Less.f (wrap64 (1 + (Int.tmod (wrap64 (a0)) 1000))) t131 t132 t133 t134 t135 t136).bind fun t144 => (if t144 = true then ((turn_Less.f (wrap64 (1 + (Int.tmod (wrap64 (a0)) 1000))) t128 t129 t130 t134 t135 t136).bind fun t145 => (if t145 = true then ((remontoirlaw08_wakes.f kj5).bind fun t146 => (some t146)) else (none))) else ((remontoirlaw08_wakes.f kj5).bind fun t147 => (some t147)))) else ((remontoirlaw08_wakes.f kj5).bind fun t148 => (some t148)))) = some r := by rw [if_neg (show ¬ (false = true) by decide)] at H; exact H
        clear H
        have H := H1
        clear H1
        replace H := Option.bind_eq_some_iff.mp H
        obtain ⟨t143, A370, H⟩ := H
        replace H : (if t143 = true then ((turn_Less.f (wrap64 (1 + (Int.tmod (wrap64 (a0)) 1000))) t131 t132 t133 t134 t135 t136).bind fun t144 => (if t144 = true then ((turn_Less.f (wrap64 (1 + (Int.tmod (wrap64 (a0)) 1000))) t128 t129 t130 t134 t135 t136).bind fun t145 => (if t145 = true then ((remontoirlaw08_wakes.f kj5).bind fun t146 => (some t146)) else (none))) else ((remontoirlaw08_wakes.f kj5).bind fun t147 => (some t147)))) else ((remontoirlaw08_wakes.f kj5).bind fun t148 => (some t148))) = some r := H
        have A37 := Aside0.mk A370
        clear A370
        by_cases c38 : t143 = true
        · subst c38
          have H1 : ((turn_Less.f (wrap64 (1 + (Int.tmod (wrap64 (a0)) 1000))) t131 t132 t133 t134 t135 t136).bind fun t144 => (if t144 = true then ((turn_Less.f (wrap64 (1 + (Int.tmod (wrap64 (a0)) 1000))) t128 t129 t130 t134 t135 t136).bind fun t145 => (if t145 = true then ((remontoirlaw08_wakes.f kj5).bind fun t146 => (some t146)) else (none))) else ((remontoirlaw08_wakes.f kj5).bind fun t147 => (some t147)))) = some r := by rw [if_pos rfl] at H; exact H
          clear H
          have H := H1
          clear H1
          replace H := Option.bind_eq_some_iff.mp H
          obtain ⟨t144, A390, H⟩ := H
          replace H : (if t144 = true then ((turn_Less.f (wrap64 (1 + (Int.tmod (wrap64 (a0)) 1000))) t128 t129 t130 t134 t135 t136).bind fun t145 => (if t145 = true then ((remontoirlaw08_wakes.f kj5).bind fun t146 => (some t146)) else (none))) else ((remontoirlaw08_wakes.f kj5).bind fun t147 => (some t147))) = some r := H
          have A39 := Aside0.mk A390
          clear A390
          by_cases c40 : t144 = true
          · subst c40
            have H1 : ((turn_Less.f (wrap64 (1 + (Int.tmod (wrap64 (a0)) 1000))) t128 t129 t130 t134 t135 t136).bind fun t145 => (if t145 = true then ((remontoirlaw08_wakes.f kj5).bind fun t146 => (some t146)) else (none))) = some r := by rw [if_pos rfl] at H; exact H
            clear H
            have H := H1
            clear H1
            replace H := Option.bind_eq_some_iff.mp H
            obtain ⟨t145, A410, H⟩ := H
            replace H : (if t145 = true then ((remontoirlaw08_wakes.f kj5).bind fun t146 => (some t146)) else (none)) = some r := H
            have A41 := Aside0.mk A410
            clear A410
            by_cases c42 : t145 = true
            · subst c42
              have H1 : ((remontoirlaw08_wakes.f kj5).bind fun t146 => (some t146)) = some r := by rw [if_pos rfl] at H; exact H
              clear H
              have H := H1
              clear H1
              replace H := Option.bind_eq_some_iff.mp H
              obtain ⟨t146, A430, H⟩ := H
              replace H : (some t146) = some r := H
              have A43 := Aside0.mk A430
              clear A430
              obtain rfl := Option.some.inj H
              have hnb44 := NB137_127.out
              have hnc44 := NB127_137.out
              have hnb45 := NB137_138.out
              have hnc45 := NB138_137.out
              have hnb46 := NB137_139.out
              have hnc46 := NB139_137.out
              have hcz47_0 : wc.cell? ⟨gb137, 0, none⟩ = some (.int .i64 t128) := (blk_cell BK137.out 0).trans rfl
              have hcz47_1 : wc.cell? ⟨gb137, 1, none⟩ = some (.int .i64 t129) := (blk_cell BK137.out 1).trans rfl
              have hcz47_2 : wc.cell? ⟨gb137, 2, none⟩ = some (.int .i64 t130) := (blk_cell BK137.out 2).trans rfl
              have hfz47_0 := blk_frozen BK137.out 0
              have hfz47_1 := blk_frozen BK137.out 1
              have hfz47_2 := blk_frozen BK137.out 2
              have hnb48 := NB138_127.out
              have hnc48 := NB127_138.out
              have hnb49 := NB138_139.out
              have hnc49 := NB139_138.out
              have hcz50_0 : wc.cell? ⟨gb138, 0, none⟩ = some (.int .i64 t131) := (blk_cell BK138.out 0).trans rfl
              have hcz50_1 : wc.cell? ⟨gb138, 1, none⟩ = some (.int .i64 t132) := (blk_cell BK138.out 1).trans rfl
              have hcz50_2 : wc.cell? ⟨gb138, 2, none⟩ = some (.int .i64 t133) := (blk_cell BK138.out 2).trans rfl
              have hfz50_0 := blk_frozen BK138.out 0
              have hfz50_1 := blk_frozen BK138.out 1
              have hfz50_2 := blk_frozen BK138.out 2
              go_wp2_with (first | ((with_reducible refine gate_callee (f := 9) rfl ?_); refine goesL_ (some 40) rfl rfl Try.func9 (by kernel_rfl) rfl #[.int .i64 (wrap64 (1 + (Int.tmod (wrap64 (a0)) 1000))), .agg #[.int .i64 t128, .int .i64 t129, .int .i64 t130], .agg #[.int .i64 t131, .int .i64 t132, .int .i64 t133]] rfl (by (try simp only [List.map_toArray, List.map_cons, List.map_nil]); first | done | rfl | (simp only [List.length_drop, List.length_take]; rfl)) ?_; (with_reducible refine (turn_Less.calls (wrap64 (1 + (Int.tmod (wrap64 (a0)) 1000))) t128 t129 t130 t131 t132 t133 true _ A37.out).mono ?_); rintro e w51 ⟨rfl, hb⟩; refine ⟨_, rfl, ?_⟩; have n0_ := Aside0.mk (blk_below (g := gb127) (o := .cells #[.int .u16 a1_0, .int .u16 a1_1, .int .u16 a1_2, .int .u16 a1_3, .int .u16 a1_4, .int .u16 a1_5] 24 (0, 0)) (by (with_reducible repeat (first | refine blk_drewN ?_ _ | refine blk_drew ?_ | refine blk_alloc ?_ _)); exact BK127.out) hb); have n1_ := Aside0.mk (blk_below (g := gb137) (o := .cells #[.int .i64 t128, .int .i64 t129, .int .i64 t130] 26 (0, 0)) (by (with_reducible repeat (first | refine blk_drewN ?_ _ | refine blk_drew ?_ | refine blk_alloc ?_ _)); exact BK137.out) hb); have n2_ := Aside0.mk (blk_below (g := gb138) (o := .cells #[.int .i64 t131, .int .i64 t132, .int .i64 t133] 26 (0, 0)) (by (with_reducible repeat (first | refine blk_drewN ?_ _ | refine blk_drew ?_ | refine blk_alloc ?_ _)); exact BK138.out) hb); have n3_ := Aside0.mk (blk_below (g := gb139) (o := .cells #[.int .i64 t134, .int .i64 t135, .int .i64 t136] 26 (0, 0)) (by (with_reducible repeat (first | refine blk_drewN ?_ _ | refine blk_drew ?_ | refine blk_alloc ?_ _)); exact BK139.out) hb); have n4_ := Aside0.mk (below_step (by repeat (first | (with_reducible first | exact HB.out | apply below_alloc | apply pw_below_drewN | apply below_drew1 | refine below_set ?_ GE127.out | refine below_set ?_ GE137.out | refine below_set ?_ GE138.out | refine below_set ?_ GE139.out) | exact HB.out)) hb); clear BK127; clear BK137; clear BK138; clear BK139; clear HB; have BK127 := n0_; have BK137 := n1_; have BK138 := n2_; have BK139 := n3_; have HB := n4_; clear n0_ n1_ n2_ n3_ n4_; (try clear hb); (try clear hb2); (try clear hk); (try clear hi); have hcz52_0 : w51.cell? ⟨gb138, 0, none⟩ = some (.int .i64 t131) := (blk_cell BK138.out 0).trans rfl; have hcz52_1 : w51.cell? ⟨gb138, 1, none⟩ = some (.int .i64 t132) := (blk_cell BK138.out 1).trans rfl; have hcz52_2 : w51.cell? ⟨gb138, 2, none⟩ = some (.int .i64 t133) := (blk_cell BK138.out 2).trans rfl; have hfz52_0 := blk_frozen BK138.out 0; have hfz52_1 := blk_frozen BK138.out 1; have hfz52_2 := blk_frozen BK138.out 2; have hnb53 := NB139_127.out; have hnc53 := NB127_139.out; have hcz54_0 : w51.cell? ⟨gb139, 0, none⟩ = some (.int .i64 t134) := (blk_cell BK139.out 0).trans rfl; have hcz54_1 : w51.cell? ⟨gb139, 1, none⟩ = some (.int .i64 t135) := (blk_cell BK139.out 1).trans rfl; have hcz54_2 : w51.cell? ⟨gb139, 2, none⟩ = some (.int .i64 t136) := (blk_cell BK139.out 2).trans rfl; have hfz54_0 := blk_frozen BK139.out 0; have hfz54_1 := blk_frozen BK139.out 1; have hfz54_2 := blk_frozen BK139.out 2) | (go_at_call 9; (with_reducible refine (turn_Less.calls (wrap64 (1 + (Int.tmod (wrap64 (a0)) 1000))) t131 t132 t133 t134 t135 t136 true _ A39.out).mono ?_); rintro e w55 ⟨rfl, hb⟩; have n0_ := Aside0.mk (blk_below (g := gb127) (o := .cells #[.int .u16 a1_0, .int .u16 a1_1, .int .u16 a1_2, .int .u16 a1_3, .int .u16 a1_4, .int .u16 a1_5] 24 (0, 0)) (by (with_reducible repeat (first | refine blk_drewN ?_ _ | refine blk_drew ?_ | refine blk_alloc ?_ _)); exact BK127.out) hb); have n1_ := Aside0.mk (blk_below (g := gb137) (o := .cells #[.int .i64 t128, .int .i64 t129, .int .i64 t130] 26 (0, 0)) (by (with_reducible repeat (first | refine blk_drewN ?_ _ | refine blk_drew ?_ | refine blk_alloc ?_ _)); exact BK137.out) hb); have n2_ := Aside0.mk (blk_below (g := gb138) (o := .cells #[.int .i64 t131, .int .i64 t132, .int .i64 t133] 26 (0, 0)) (by (with_reducible repeat (first | refine blk_drewN ?_ _ | refine blk_drew ?_ | refine blk_alloc ?_ _)); exact BK138.out) hb); have n3_ := Aside0.mk (blk_below (g := gb139) (o := .cells #[.int .i64 t134, .int .i64 t135, .int .i64 t136] 26 (0, 0)) (by (with_reducible repeat (first | refine blk_drewN ?_ _ | refine blk_drew ?_ | refine blk_alloc ?_ _)); exact BK139.out) hb); have n4_ := Aside0.mk (below_step (by repeat (first | (with_reducible first | exact HB.out | apply below_alloc | apply pw_below_drewN | apply below_drew1 | refine below_set ?_ GE127.out | refine below_set ?_ GE137.out | refine below_set ?_ GE138.out | refine below_set ?_ GE139.out) | exact HB.out)) hb); clear BK127; clear BK137; clear BK138; clear BK139; clear HB; have BK127 := n0_; have BK137 := n1_; have BK138 := n2_; have BK139 := n3_; have HB := n4_; clear n0_ n1_ n2_ n3_ n4_; (try clear hb); (try clear hb2); (try clear hk); (try clear hi); have hcz56_0 : w55.cell? ⟨gb137, 0, none⟩ = some (.int .i64 t128) := (blk_cell BK137.out 0).trans rfl; have hcz56_1 : w55.cell? ⟨gb137, 1, none⟩ = some (.int .i64 t129) := (blk_cell BK137.out 1).trans rfl; have hcz56_2 : w55.cell? ⟨gb137, 2, none⟩ = some (.int .i64 t130) := (blk_cell BK137.out 2).trans rfl; have hfz56_0 := blk_frozen BK137.out 0; have hfz56_1 := blk_frozen BK137.out 1; have hfz56_2 := blk_frozen BK137.out 2; have hcz57_0 : w55.cell? ⟨gb139, 0, none⟩ = some (.int .i64 t134) := (blk_cell BK139.out 0).trans rfl; have hcz57_1 : w55.cell? ⟨gb139, 1, none⟩ = some (.int .i64 t135) := (blk_cell BK139.out 1).trans rfl; have hcz57_2 : w55.cell? ⟨gb139, 2, none⟩ = some (.int .i64 t136) := (blk_cell BK139.out 2).trans rfl; have hfz57_0 := blk_frozen BK139.out 0; have hfz57_1 := blk_frozen BK139.out 1; have hfz57_2 := blk_frozen BK139.out 2) | (go_at_call 9; (with_reducible refine (turn_Less.calls (wrap64 (1 + (Int.tmod (wrap64 (a0)) 1000))) t128 t129 t130 t134 t135 t136 true _ A41.out).mono ?_); rintro e w58 ⟨rfl, hb⟩; have n0_ := Aside0.mk (blk_below (g := gb127) (o := .cells #[.int .u16 a1_0, .int .u16 a1_1, .int .u16 a1_2, .int .u16 a1_3, .int .u16 a1_4, .int .u16 a1_5] 24 (0, 0)) (by (with_reducible repeat (first | refine blk_drewN ?_ _ | refine blk_drew ?_ | refine blk_alloc ?_ _)); exact BK127.out) hb); have n1_ := Aside0.mk (blk_below (g := gb137) (o := .cells #[.int .i64 t128, .int .i64 t129, .int .i64 t130] 26 (0, 0)) (by (with_reducible repeat (first | refine blk_drewN ?_ _ | refine blk_drew ?_ | refine blk_alloc ?_ _)); exact BK137.out) hb); have n2_ := Aside0.mk (blk_below (g := gb138) (o := .cells #[.int .i64 t131, .int .i64 t132, .int .i64 t133] 26 (0, 0)) (by (with_reducible repeat (first | refine blk_drewN ?_ _ | refine blk_drew ?_ | refine blk_alloc ?_ _)); exact BK138.out) hb); have n3_ := Aside0.mk (blk_below (g := gb139) (o := .cells #[.int .i64 t134, .int .i64 t135, .int .i64 t136] 26 (0, 0)) (by (with_reducible repeat (first | refine blk_drewN ?_ _ | refine blk_drew ?_ | refine blk_alloc ?_ _)); exact BK139.out) hb); have n4_ := Aside0.mk (below_step (by repeat (first | (with_reducible first | exact HB.out | apply below_alloc | apply pw_below_drewN | apply below_drew1 | refine below_set ?_ GE127.out | refine below_set ?_ GE137.out | refine below_set ?_ GE138.out | refine below_set ?_ GE139.out) | exact HB.out)) hb); clear BK127; clear BK137; clear BK138; clear BK139; clear HB; have BK127 := n0_; have BK137 := n1_; have BK138 := n2_; have BK139 := n3_; have HB := n4_; clear n0_ n1_ n2_ n3_ n4_; (try clear hb); (try clear hb2); (try clear hk); (try clear hi)) | (go_at_call 10; (with_reducible refine (remontoirlaw08_wakes.calls kj5  t146 _ A43.out).mono ?_); rintro e w59 ⟨rfl, hb⟩; have n0_ := Aside0.mk (blk_below (g := gb127) (o := .cells #[.int .u16 a1_0, .int .u16 a1_1, .int .u16 a1_2, .int .u16 a1_3, .int .u16 a1_4, .int .u16 a1_5] 24 (0, 0)) (by (with_reducible repeat (first | refine blk_drewN ?_ _ | refine blk_drew ?_ | refine blk_alloc ?_ _)); exact BK127.out) hb); have n1_ := Aside0.mk (blk_below (g := gb137) (o := .cells #[.int .i64 t128, .int .i64 t129, .int .i64 t130] 26 (0, 0)) (by (with_reducible repeat (first | refine blk_drewN ?_ _ | refine blk_drew ?_ | refine blk_alloc ?_ _)); exact BK137.out) hb); have n2_ := Aside0.mk (blk_below (g := gb138) (o := .cells #[.int .i64 t131, .int .i64 t132, .int .i64 t133] 26 (0, 0)) (by (with_reducible repeat (first | refine blk_drewN ?_ _ | refine blk_drew ?_ | refine blk_alloc ?_ _)); exact BK138.out) hb); have n3_ := Aside0.mk (blk_below (g := gb139) (o := .cells #[.int .i64 t134, .int .i64 t135, .int .i64 t136] 26 (0, 0)) (by (with_reducible repeat (first | refine blk_drewN ?_ _ | refine blk_drew ?_ | refine blk_alloc ?_ _)); exact BK139.out) hb); have n4_ := Aside0.mk (below_step (by repeat (first | (with_reducible first | exact HB.out | apply below_alloc | apply pw_below_drewN | apply below_drew1 | refine below_set ?_ GE127.out | refine below_set ?_ GE137.out | refine below_set ?_ GE138.out | refine below_set ?_ GE139.out) | exact HB.out)) hb); clear BK127; clear BK137; clear BK138; clear BK139; clear HB; have BK127 := n0_; have BK137 := n1_; have BK138 := n2_; have BK139 := n3_; have HB := n4_; clear n0_ n1_ n2_ n3_ n4_; (try clear hb); (try clear hb2); (try clear hk); (try clear hi)))
              go_ret
              exact ⟨by first | rfl | (simp [errW_none, errW_some] <;> rfl) | (simp [*, errW_none, errW_some] <;> rfl), by repeat (first | (with_reducible first | exact HB.out | apply below_alloc | apply pw_below_drewN | apply below_drew1 | refine below_set ?_ GE127.out | refine below_set ?_ GE137.out | refine below_set ?_ GE138.out | refine below_set ?_ GE139.out) | exact HB.out)⟩
            · replace c42 := Bool.eq_false_iff.mpr c42
              subst c42
              have H1 : (none) = some r := by rw [if_neg (show ¬ (false = true) by decide)] at H; exact H
              clear H
              have H := H1
              clear H1
              exact absurd H (by simp)
          · replace c40 := Bool.eq_false_iff.mpr c40
            subst c40
            have H1 : ((remontoirlaw08_wakes.f kj5).bind fun t147 => (some t147)) = some r := by rw [if_neg (show ¬ (false = true) by decide)] at H; exact H
            clear H
            have H := H1
            clear H1
            replace H := Option.bind_eq_some_iff.mp H
            obtain ⟨t147, A600, H⟩ := H
            replace H : (some t147) = some r := H
            have A60 := Aside0.mk A600
            clear A600
            obtain rfl := Option.some.inj H
            have hnb61 := NB137_127.out
            have hnc61 := NB127_137.out
            have hnb62 := NB137_138.out
            have hnc62 := NB138_137.out
            have hnb63 := NB137_139.out
            have hnc63 := NB139_137.out
            have hcz64_0 : wc.cell? ⟨gb137, 0, none⟩ = some (.int .i64 t128) := (blk_cell BK137.out 0).trans rfl
            have hcz64_1 : wc.cell? ⟨gb137, 1, none⟩ = some (.int .i64 t129) := (blk_cell BK137.out 1).trans rfl
            have hcz64_2 : wc.cell? ⟨gb137, 2, none⟩ = some (.int .i64 t130) := (blk_cell BK137.out 2).trans rfl
            have hfz64_0 := blk_frozen BK137.out 0
            have hfz64_1 := blk_frozen BK137.out 1
            have hfz64_2 := blk_frozen BK137.out 2
            have hnb65 := NB138_127.out
            have hnc65 := NB127_138.out
            have hnb66 := NB138_139.out
            have hnc66 := NB139_138.out
            have hcz67_0 : wc.cell? ⟨gb138, 0, none⟩ = some (.int .i64 t131) := (blk_cell BK138.out 0).trans rfl
            have hcz67_1 : wc.cell? ⟨gb138, 1, none⟩ = some (.int .i64 t132) := (blk_cell BK138.out 1).trans rfl
            have hcz67_2 : wc.cell? ⟨gb138, 2, none⟩ = some (.int .i64 t133) := (blk_cell BK138.out 2).trans rfl
            have hfz67_0 := blk_frozen BK138.out 0
            have hfz67_1 := blk_frozen BK138.out 1
            have hfz67_2 := blk_frozen BK138.out 2
            go_wp2_with (first | ((with_reducible refine gate_callee (f := 9) rfl ?_); refine goesL_ (some 40) rfl rfl Try.func9 (by kernel_rfl) rfl #[.int .i64 (wrap64 (1 + (Int.tmod (wrap64 (a0)) 1000))), .agg #[.int .i64 t128, .int .i64 t129, .int .i64 t130], .agg #[.int .i64 t131, .int .i64 t132, .int .i64 t133]] rfl (by (try simp only [List.map_toArray, List.map_cons, List.map_nil]); first | done | rfl | (simp only [List.length_drop, List.length_take]; rfl)) ?_; (with_reducible refine (turn_Less.calls (wrap64 (1 + (Int.tmod (wrap64 (a0)) 1000))) t128 t129 t130 t131 t132 t133 true _ A37.out).mono ?_); rintro e w68 ⟨rfl, hb⟩; refine ⟨_, rfl, ?_⟩; have n0_ := Aside0.mk (blk_below (g := gb127) (o := .cells #[.int .u16 a1_0, .int .u16 a1_1, .int .u16 a1_2, .int .u16 a1_3, .int .u16 a1_4, .int .u16 a1_5] 24 (0, 0)) (by (with_reducible repeat (first | refine blk_drewN ?_ _ | refine blk_drew ?_ | refine blk_alloc ?_ _)); exact BK127.out) hb); have n1_ := Aside0.mk (blk_below (g := gb137) (o := .cells #[.int .i64 t128, .int .i64 t129, .int .i64 t130] 26 (0, 0)) (by (with_reducible repeat (first | refine blk_drewN ?_ _ | refine blk_drew ?_ | refine blk_alloc ?_ _)); exact BK137.out) hb); have n2_ := Aside0.mk (blk_below (g := gb138) (o := .cells #[.int .i64 t131, .int .i64 t132, .int .i64 t133] 26 (0, 0)) (by (with_reducible repeat (first | refine blk_drewN ?_ _ | refine blk_drew ?_ | refine blk_alloc ?_ _)); exact BK138.out) hb); have n3_ := Aside0.mk (blk_below (g := gb139) (o := .cells #[.int .i64 t134, .int .i64 t135, .int .i64 t136] 26 (0, 0)) (by (with_reducible repeat (first | refine blk_drewN ?_ _ | refine blk_drew ?_ | refine blk_alloc ?_ _)); exact BK139.out) hb); have n4_ := Aside0.mk (below_step (by repeat (first | (with_reducible first | exact HB.out | apply below_alloc | apply pw_below_drewN | apply below_drew1 | refine below_set ?_ GE127.out | refine below_set ?_ GE137.out | refine below_set ?_ GE138.out | refine below_set ?_ GE139.out) | exact HB.out)) hb); clear BK127; clear BK137; clear BK138; clear BK139; clear HB; have BK127 := n0_; have BK137 := n1_; have BK138 := n2_; have BK139 := n3_; have HB := n4_; clear n0_ n1_ n2_ n3_ n4_; (try clear hb); (try clear hb2); (try clear hk); (try clear hi); have hcz69_0 : w68.cell? ⟨gb138, 0, none⟩ = some (.int .i64 t131) := (blk_cell BK138.out 0).trans rfl; have hcz69_1 : w68.cell? ⟨gb138, 1, none⟩ = some (.int .i64 t132) := (blk_cell BK138.out 1).trans rfl; have hcz69_2 : w68.cell? ⟨gb138, 2, none⟩ = some (.int .i64 t133) := (blk_cell BK138.out 2).trans rfl; have hfz69_0 := blk_frozen BK138.out 0; have hfz69_1 := blk_frozen BK138.out 1; have hfz69_2 := blk_frozen BK138.out 2; have hnb70 := NB139_127.out; have hnc70 := NB127_139.out; have hcz71_0 : w68.cell? ⟨gb139, 0, none⟩ = some (.int .i64 t134) := (blk_cell BK139.out 0).trans rfl; have hcz71_1 : w68.cell? ⟨gb139, 1, none⟩ = some (.int .i64 t135) := (blk_cell BK139.out 1).trans rfl; have hcz71_2 : w68.cell? ⟨gb139, 2, none⟩ = some (.int .i64 t136) := (blk_cell BK139.out 2).trans rfl; have hfz71_0 := blk_frozen BK139.out 0; have hfz71_1 := blk_frozen BK139.out 1; have hfz71_2 := blk_frozen BK139.out 2) | (go_at_call 9; (with_reducible refine (turn_Less.calls (wrap64 (1 + (Int.tmod (wrap64 (a0)) 1000))) t131 t132 t133 t134 t135 t136 false _ A39.out).mono ?_); rintro e w72 ⟨rfl, hb⟩; have n0_ := Aside0.mk (blk_below (g := gb127) (o := .cells #[.int .u16 a1_0, .int .u16 a1_1, .int .u16 a1_2, .int .u16 a1_3, .int .u16 a1_4, .int .u16 a1_5] 24 (0, 0)) (by (with_reducible repeat (first | refine blk_drewN ?_ _ | refine blk_drew ?_ | refine blk_alloc ?_ _)); exact BK127.out) hb); have n1_ := Aside0.mk (blk_below (g := gb137) (o := .cells #[.int .i64 t128, .int .i64 t129, .int .i64 t130] 26 (0, 0)) (by (with_reducible repeat (first | refine blk_drewN ?_ _ | refine blk_drew ?_ | refine blk_alloc ?_ _)); exact BK137.out) hb); have n2_ := Aside0.mk (blk_below (g := gb138) (o := .cells #[.int .i64 t131, .int .i64 t132, .int .i64 t133] 26 (0, 0)) (by (with_reducible repeat (first | refine blk_drewN ?_ _ | refine blk_drew ?_ | refine blk_alloc ?_ _)); exact BK138.out) hb); have n3_ := Aside0.mk (blk_below (g := gb139) (o := .cells #[.int .i64 t134, .int .i64 t135, .int .i64 t136] 26 (0, 0)) (by (with_reducible repeat (first | refine blk_drewN ?_ _ | refine blk_drew ?_ | refine blk_alloc ?_ _)); exact BK139.out) hb); have n4_ := Aside0.mk (below_step (by repeat (first | (with_reducible first | exact HB.out | apply below_alloc | apply pw_below_drewN | apply below_drew1 | refine below_set ?_ GE127.out | refine below_set ?_ GE137.out | refine below_set ?_ GE138.out | refine below_set ?_ GE139.out) | exact HB.out)) hb); clear BK127; clear BK137; clear BK138; clear BK139; clear HB; have BK127 := n0_; have BK137 := n1_; have BK138 := n2_; have BK139 := n3_; have HB := n4_; clear n0_ n1_ n2_ n3_ n4_; (try clear hb); (try clear hb2); (try clear hk); (try clear hi)) | (go_at_call 10; (with_reducible refine (remontoirlaw08_wakes.calls kj5  t147 _ A60.out).mono ?_); rintro e w73 ⟨rfl, hb⟩; have n0_ := Aside0.mk (blk_below (g := gb127) (o := .cells #[.int .u16 a1_0, .int .u16 a1_1, .int .u16 a1_2, .int .u16 a1_3, .int .u16 a1_4, .int .u16 a1_5] 24 (0, 0)) (by (with_reducible repeat (first | refine blk_drewN ?_ _ | refine blk_drew ?_ | refine blk_alloc ?_ _)); exact BK127.out) hb); have n1_ := Aside0.mk (blk_below (g := gb137) (o := .cells #[.int .i64 t128, .int .i64 t129, .int .i64 t130] 26 (0, 0)) (by (with_reducible repeat (first | refine blk_drewN ?_ _ | refine blk_drew ?_ | refine blk_alloc ?_ _)); exact BK137.out) hb); have n2_ := Aside0.mk (blk_below (g := gb138) (o := .cells #[.int .i64 t131, .int .i64 t132, .int .i64 t133] 26 (0, 0)) (by (with_reducible repeat (first | refine blk_drewN ?_ _ | refine blk_drew ?_ | refine blk_alloc ?_ _)); exact BK138.out) hb); have n3_ := Aside0.mk (blk_below (g := gb139) (o := .cells #[.int .i64 t134, .int .i64 t135, .int .i64 t136] 26 (0, 0)) (by (with_reducible repeat (first | refine blk_drewN ?_ _ | refine blk_drew ?_ | refine blk_alloc ?_ _)); exact BK139.out) hb); have n4_ := Aside0.mk (below_step (by repeat (first | (with_reducible first | exact HB.out | apply below_alloc | apply pw_below_drewN | apply below_drew1 | refine below_set ?_ GE127.out | refine below_set ?_ GE137.out | refine below_set ?_ GE138.out | refine below_set ?_ GE139.out) | exact HB.out)) hb); clear BK127; clear BK137; clear BK138; clear BK139; clear HB; have BK127 := n0_; have BK137 := n1_; have BK138 := n2_; have BK139 := n3_; have HB := n4_; clear n0_ n1_ n2_ n3_ n4_; (try clear hb); (try clear hb2); (try clear hk); (try clear hi)))
            go_ret
            exact ⟨by first | rfl | (simp [errW_none, errW_some] <;> rfl) | (simp [*, errW_none, errW_some] <;> rfl), by repeat (first | (with_reducible first | exact HB.out | apply below_alloc | apply pw_below_drewN | apply below_drew1 | refine below_set ?_ GE127.out | refine below_set ?_ GE137.out | refine below_set ?_ GE138.out | refine below_set ?_ GE139.out) | exact HB.out)⟩
        · replace c38 := Bool.eq_false_iff.mpr c38
          subst c38
          have H1 : ((remontoirlaw08_wakes.f kj5).bind fun t148 => (some t148)) = some r := by rw [if_neg (show ¬ (false = true) by decide)] at H; exact H
          clear H
          have H := H1
          clear H1
          replace H := Option.bind_eq_some_iff.mp H
          obtain ⟨t148, A740, H⟩ := H
          replace H : (some t148) = some r := H
          have A74 := Aside0.mk A740
          clear A740
          obtain rfl := Option.some.inj H
          have hnb75 := NB137_127.out
          have hnc75 := NB127_137.out
          have hnb76 := NB137_138.out
          have hnc76 := NB138_137.out
          have hnb77 := NB137_139.out
          have hnc77 := NB139_137.out
          have hcz78_0 : wc.cell? ⟨gb137, 0, none⟩ = some (.int .i64 t128) := (blk_cell BK137.out 0).trans rfl
          have hcz78_1 : wc.cell? ⟨gb137, 1, none⟩ = some (.int .i64 t129) := (blk_cell BK137.out 1).trans rfl
          have hcz78_2 : wc.cell? ⟨gb137, 2, none⟩ = some (.int .i64 t130) := (blk_cell BK137.out 2).trans rfl
          have hfz78_0 := blk_frozen BK137.out 0
          have hfz78_1 := blk_frozen BK137.out 1
          have hfz78_2 := blk_frozen BK137.out 2
          have hnb79 := NB138_127.out
          have hnc79 := NB127_138.out
          have hnb80 := NB138_139.out
          have hnc80 := NB139_138.out
          have hcz81_0 : wc.cell? ⟨gb138, 0, none⟩ = some (.int .i64 t131) := (blk_cell BK138.out 0).trans rfl
          have hcz81_1 : wc.cell? ⟨gb138, 1, none⟩ = some (.int .i64 t132) := (blk_cell BK138.out 1).trans rfl
          have hcz81_2 : wc.cell? ⟨gb138, 2, none⟩ = some (.int .i64 t133) := (blk_cell BK138.out 2).trans rfl
          have hfz81_0 := blk_frozen BK138.out 0
          have hfz81_1 := blk_frozen BK138.out 1
          have hfz81_2 := blk_frozen BK138.out 2
          go_wp2_with (first | ((with_reducible refine gate_callee (f := 9) rfl ?_); refine goesL_ (some 40) rfl rfl Try.func9 (by kernel_rfl) rfl #[.int .i64 (wrap64 (1 + (Int.tmod (wrap64 (a0)) 1000))), .agg #[.int .i64 t128, .int .i64 t129, .int .i64 t130], .agg #[.int .i64 t131, .int .i64 t132, .int .i64 t133]] rfl (by (try simp only [List.map_toArray, List.map_cons, List.map_nil]); first | done | rfl | (simp only [List.length_drop, List.length_take]; rfl)) ?_; (with_reducible refine (turn_Less.calls (wrap64 (1 + (Int.tmod (wrap64 (a0)) 1000))) t128 t129 t130 t131 t132 t133 false _ A37.out).mono ?_); rintro e w82 ⟨rfl, hb⟩; refine ⟨_, rfl, ?_⟩; have n0_ := Aside0.mk (blk_below (g := gb127) (o := .cells #[.int .u16 a1_0, .int .u16 a1_1, .int .u16 a1_2, .int .u16 a1_3, .int .u16 a1_4, .int .u16 a1_5] 24 (0, 0)) (by (with_reducible repeat (first | refine blk_drewN ?_ _ | refine blk_drew ?_ | refine blk_alloc ?_ _)); exact BK127.out) hb); have n1_ := Aside0.mk (blk_below (g := gb137) (o := .cells #[.int .i64 t128, .int .i64 t129, .int .i64 t130] 26 (0, 0)) (by (with_reducible repeat (first | refine blk_drewN ?_ _ | refine blk_drew ?_ | refine blk_alloc ?_ _)); exact BK137.out) hb); have n2_ := Aside0.mk (blk_below (g := gb138) (o := .cells #[.int .i64 t131, .int .i64 t132, .int .i64 t133] 26 (0, 0)) (by (with_reducible repeat (first | refine blk_drewN ?_ _ | refine blk_drew ?_ | refine blk_alloc ?_ _)); exact BK138.out) hb); have n3_ := Aside0.mk (blk_below (g := gb139) (o := .cells #[.int .i64 t134, .int .i64 t135, .int .i64 t136] 26 (0, 0)) (by (with_reducible repeat (first | refine blk_drewN ?_ _ | refine blk_drew ?_ | refine blk_alloc ?_ _)); exact BK139.out) hb); have n4_ := Aside0.mk (below_step (by repeat (first | (with_reducible first | exact HB.out | apply below_alloc | apply pw_below_drewN | apply below_drew1 | refine below_set ?_ GE127.out | refine below_set ?_ GE137.out | refine below_set ?_ GE138.out | refine below_set ?_ GE139.out) | exact HB.out)) hb); clear BK127; clear BK137; clear BK138; clear BK139; clear HB; have BK127 := n0_; have BK137 := n1_; have BK138 := n2_; have BK139 := n3_; have HB := n4_; clear n0_ n1_ n2_ n3_ n4_; (try clear hb); (try clear hb2); (try clear hk); (try clear hi)) | (go_at_call 10; (with_reducible refine (remontoirlaw08_wakes.calls kj5  t148 _ A74.out).mono ?_); rintro e w83 ⟨rfl, hb⟩; have n0_ := Aside0.mk (blk_below (g := gb127) (o := .cells #[.int .u16 a1_0, .int .u16 a1_1, .int .u16 a1_2, .int .u16 a1_3, .int .u16 a1_4, .int .u16 a1_5] 24 (0, 0)) (by (with_reducible repeat (first | refine blk_drewN ?_ _ | refine blk_drew ?_ | refine blk_alloc ?_ _)); exact BK127.out) hb); have n1_ := Aside0.mk (blk_below (g := gb137) (o := .cells #[.int .i64 t128, .int .i64 t129, .int .i64 t130] 26 (0, 0)) (by (with_reducible repeat (first | refine blk_drewN ?_ _ | refine blk_drew ?_ | refine blk_alloc ?_ _)); exact BK137.out) hb); have n2_ := Aside0.mk (blk_below (g := gb138) (o := .cells #[.int .i64 t131, .int .i64 t132, .int .i64 t133] 26 (0, 0)) (by (with_reducible repeat (first | refine blk_drewN ?_ _ | refine blk_drew ?_ | refine blk_alloc ?_ _)); exact BK138.out) hb); have n3_ := Aside0.mk (blk_below (g := gb139) (o := .cells #[.int .i64 t134, .int .i64 t135, .int .i64 t136] 26 (0, 0)) (by (with_reducible repeat (first | refine blk_drewN ?_ _ | refine blk_drew ?_ | refine blk_alloc ?_ _)); exact BK139.out) hb); have n4_ := Aside0.mk (below_step (by repeat (first | (with_reducible first | exact HB.out | apply below_alloc | apply pw_below_drewN | apply below_drew1 | refine below_set ?_ GE127.out | refine below_set ?_ GE137.out | refine below_set ?_ GE138.out | refine below_set ?_ GE139.out) | exact HB.out)) hb); clear BK127; clear BK137; clear BK138; clear BK139; clear HB; have BK127 := n0_; have BK137 := n1_; have BK138 := n2_; have BK139 := n3_; have HB := n4_; clear n0_ n1_ n2_ n3_ n4_; (try clear hb); (try clear hb2); (try clear hk); (try clear hi)))
          go_ret
          exact ⟨by first | rfl | (simp [errW_none, errW_some] <;> rfl) | (simp [*, errW_none, errW_some] <;> rfl), by repeat (first | (with_reducible first | exact HB.out | apply below_alloc | apply pw_below_drewN | apply below_drew1 | refine below_set ?_ GE127.out | refine below_set ?_ GE137.out | refine below_set ?_ GE138.out | refine below_set ?_ GE139.out) | exact HB.out)⟩

end Go.Proofs.Ytdnonlapiheenaa.POrd
