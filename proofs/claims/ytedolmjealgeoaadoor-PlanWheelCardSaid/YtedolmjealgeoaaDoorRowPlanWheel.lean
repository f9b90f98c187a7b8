/- The row of PlanWheel: each argument is laid open to its numbers, the call is taken by its contract, the arguments read as before. Conditions: the contract's own. -/
import Derived.Test.YtedolmjealgeoaaDoorRows
import Derived.Test.YtedolmjealgeoaaDoorOpen
import Derived.Test.YtedolmjealgeoaaDoorCallPlanWheel
import Derived.WalkKit
import Derived.ProofKit
import Derived.OpenShut
import Derived.ShutString
import Derived.ChangeOld
import Derived.Below
import Derived.SizedLaws
import Derived.LaidMore
import Derived.Stop.Joined
import Derived.Lib.LaidTab
import Derived.Test.YtedolmjealgeoaaDoorTie
import Derived.Test.YtedolmjealgeoaaDoorCards
import Derived.SevenTiedAt
import Derived.Test.YtedolmjealgeoaaDoorTz
namespace Go.Proofs.YtedolmjealgeoaaDoor.RowPlanWheel
open Go.ChangeShapes Go.WideShapes Go.ChangeAt Go.RowKit Go.Proofs.YtedolmjealgeoaaDoor.Open Go.Proofs.YtedolmjealgeoaaDoor
set_option linter.unusedVariables false
set_option linter.unusedSimpArgs false
set_option maxRecDepth 100000 in
theorem flat3 : Flat Tryd.prog 3 [.i64] := flat_int (by kernel_rfl) (by kernel_rfl)
set_option maxRecDepth 100000 in
theorem flat29 : Flat Tryd.prog 29 [.u64] := flat_int (by kernel_rfl) (by kernel_rfl)
noncomputable def fields31 : Array Field := match Tryd.prog.underlying 31 with | some (.struct fs) => fs | _ => #[]
theorem under31 : Tryd.prog.underlying 31 = some (.struct fields31) := by kernel_rfl
set_option maxRecDepth 100000 in
theorem flat31 : Flat Tryd.prog 31 [.i64, .u64] := flat_struct [[.i64], [.u64]] (fs := (fields31)) under31 (by kernel_rfl) rfl (fun i f ks hf hk => match i, f, ks, hf, hk with
    | 0, _, _, hf, hk => by simp only [List.getElem?_cons_zero, List.getElem?_cons_succ, Option.some.injEq] at hk; subst hk; obtain rfl := Option.some.inj hf; exact ⟨flat3, rfl⟩
    | 1, _, _, hf, hk => by simp only [List.getElem?_cons_zero, List.getElem?_cons_succ, Option.some.injEq] at hk; subst hk; obtain rfl := Option.some.inj hf; exact ⟨flat29, rfl⟩
    | n + 2, _, _, _, hk => by simp at hk)
theorem own : ownKnob Tryd.prog.godebug = none := by kernel_rfl
theorem laidOut : laidOutB Tryd.prog = true := by kernel_rfl
theorem door_met (os : Os) (args : Array Value) : laidMetH Tryd.prog [("math/bits.deBruijn64tab", Rows.laid_math_bits_deBruijn64tab)] ((World.doorLaid Tryd.prog 400 os).forCall (fun _ _ => 0) ⟨#[], args, []⟩).memory :=
  laidMetH_of_parts3 (fuel := 8) (laidMet_of_run' 8 (by kernel_rfl) (by kernel_rfl)) (by kernel_rfl) (by kernel_rfl)
theorem tab_of {W : World} (h : laidMetH Tryd.prog [("math/bits.deBruijn64tab", Rows.laid_math_bits_deBruijn64tab)] W) : Tz.TabOk W := by
  rw [MakeChecks.laidMetH_plain _ _ _ (by kernel_rfl)] at h
  have h2 : laidMet Tryd.prog [("math/bits.deBruijn64tab", Lib.tabData .u8 (Lib.deBruijn64tab.map fun n : Nat => (n : Int)))] W := h
  have h3 := Lib.tabIs_of_head (g := 0) (t := 150) (e := 5) (n := 64) (by kernel_rfl) (by kernel_rfl) (by kernel_rfl) (by kernel_rfl) (by kernel_rfl) (by kernel_rfl) h2
  intro j hj
  have h4 := h3.cell (g := 0) (by kernel_rfl) j (by simpa using hj)
  rw [h4]
  congr 2
  simp [List.getD, List.getElem?_eq_getElem hj]
set_option maxRecDepth 100000 in
theorem lifted (os : Os) (started : os.Started) (H : Type) (enc : TypeId × Value → H) :
    ReturnsInHanded {} Tryd.checked os 12 .any (fun w args => (Rows.planWheelSpec.pre enc Tryd.prog Tryd.f12 [] false w args ∧ laidMetH Tryd.prog [("math/bits.deBruijn64tab", Rows.laid_math_bits_deBruijn64tab)] w) ∧ sizedMet enc Tryd.prog Tryd.f12 (OpenSpec.ofChange Rows.planWheelSpec) false w args) (Rows.planWheelSpec.post enc Tryd.prog Tryd.f12 false true false false) := by
  refine returnsInHanded_of_change_and (C := Tryd.checked) (X := fun w _ => laidMetH Tryd.prog [("math/bits.deBruijn64tab", Rows.laid_math_bits_deBruijn64tab)] w) (fun _ _ _ hh h => h.of_heap hh) own started (by kernel_rfl) Tryd.func12
    (ChangeSpec.witness_shaped (enc := enc) (C := Tryd.checked) (os := os) (X := fun w _ => laidMetH Tryd.prog [("math/bits.deBruijn64tab", Rows.laid_math_bits_deBruijn64tab)] w) false (World.doorLaid Tryd.prog 400 os) #[.int .u64 0, .slice none 0 0, .slice none 0 0] 8 rfl (World.shaped_of_RefB (by kernel_rfl) (by kernel_rfl)) (by kernel_rfl) (by kernel_rfl) (by kernel_rfl) (door_met os _)) ?_
  intro W base args ds gs before hval0 hW hcnd hsz0 hL _
  have hsz : (DataW.weightsEach Tryd.prog (Tryd.f12.params.toList ++ Rows.planWheelSpec.plain.varTypes Tryd.prog) (ds ++ gs)).all (· ≤ reachBytes) = true := hsz0
  have hval : ∀ (j : Nat) t v, Tryd.f12.params[j]? = some t → args[j]? = some v → Value.okWide Tryd.prog W .any base t v := hval0
  have hW' := hW
  obtain ⟨p, q, hA0, hV, rfl, hfz, hnd⟩ := hW
  have hA : DataW.TrodAll enc Tryd.prog W 0 (fun _ => true) true Tryd.f12.params.toList args.toList ds p := hA0
  rw [Tryd.params12] at hA hval hsz
  obtain ⟨v0, vs0, d0, ds0, p0, q0, hargs, rfl, rfl, h0, r0⟩ := trodAll_cons hA
  obtain ⟨v1, vs1, d1, ds1, p1, q1, rfl, rfl, rfl, h1, r1⟩ := trodAll_cons r0
  obtain ⟨v2, vs2, d2, ds2, p2, q2, rfl, rfl, rfl, h2, r2⟩ := trodAll_cons r1
  obtain ⟨rfl, rfl, rfl⟩ := trodAll_nil r2
  obtain rfl : args = #[v0, v1, v2] := by cases args; simp_all
  obtain ⟨rfl, rfl⟩ := trodVars_none hV
  have k0 := h0
  have lt0 : ∀ x ∈ p0, x.block < W.heap.size := by obtain ⟨m, hm⟩ := k0; exact DataW.trod_lt m _ _ _ hm
  obtain ⟨a0, rfl, -, -, w0⟩ := open_int (show Tryd.prog.underlying 29 = some (.int .u64) by kernel_rfl) (hval 0 29 v0 rfl rfl) h0
  have k1 := h1
  have lt1 : ∀ x ∈ p1, x.block < W.heap.size := by obtain ⟨m, hm⟩ := k1; exact DataW.trod_lt m _ _ _ hm
  obtain ⟨a1, len1, c1, rfl⟩ := okWide_slice (t := 42) (e := 31) (by kernel_rfl) (hval 1 42 v1 rfl rfl)
  have y1 : len1 * 16 ≤ 140737488351232 := sized_rows hsz (j := 1) (t := 42) (e := 31) rfl rfl (by kernel_rfl) (by kernel_rfl) h1
  obtain ⟨l1, rfl, x1, m1, e1⟩ := open_rows (t := 42) (e := 31) (by kernel_rfl) flat31 h1
  have k2 := h2
  have lt2 : ∀ x ∈ p2, x.block < W.heap.size := by obtain ⟨m, hm⟩ := k2; exact DataW.trod_lt m _ _ _ hm
  obtain ⟨a2, len2, c2, rfl⟩ := okWide_slice (t := 51) (e := 29) (by kernel_rfl) (hval 2 51 v2 rfl rfl)
  have y2 : len2 * 8 ≤ 140737488351232 := sized_rows hsz (j := 2) (t := 51) (e := 29) rfl rfl (by kernel_rfl) (by kernel_rfl) h2
  obtain ⟨l2, rfl, x2, m2, e2⟩ := open_rows (t := 51) (e := 29) (by kernel_rfl) flat29 h2
  clear hA0 hval0 hsz0 hsz
  refine (CallPlanWheel.calls W (tab_of hL) a0 w0 a1 c1 l1 e1 x1 m1 y1 a2 c2 l2 e2 x2 m2 y2).mono fun e W' ⟨he, bel⟩ => ?_
  subst he
  exact ⟨_, rfl, _, _, _, [], _, [], hW', trodAll_mk1 (shut_bool (t := 4) (by kernel_rfl) _), (trodAll_cons_mk (Below.trod laidOut (by kernel_rfl) (of_decide_eq_true (by kernel_rfl)) k0 bel lt0) (trodAll_cons_mk (Below.trod laidOut (by kernel_rfl) (of_decide_eq_true (by kernel_rfl)) k1 bel lt1) (trodAll_cons_mk (Below.trod laidOut (by kernel_rfl) (of_decide_eq_true (by kernel_rfl)) k2 bel lt2) trodAll_mk0))), rfl, bel.frame _, fun h => by cases h⟩
theorem over : Rows.planWheelRow.holds Tryd.pinned (OpenSpec.ofChange Rows.planWheelSpec) :=
  OpenClaim.holds_of_wide 12 Tryd.f12 rfl rfl rfl rfl rfl rfl rfl ⟨rfl, rfl, rfl, rfl, rfl⟩ rfl rfl rfl rfl rfl (by kernel_rfl) Tryd.func12 (by kernel_rfl)
    (of_decide_eq_true (by kernel_rfl)) (by unfold Func.isWrapper; first | (rw [if_pos (by decide +kernel)]; kernel_rfl) | (rw [if_neg (by decide +kernel)]; exact ⟨rfl, rfl⟩))
    (fun os started H enc _ => lifted os started H enc)
theorem proved : Rows.PlanWheelSaid := over
end Go.Proofs.YtedolmjealgeoaaDoor.RowPlanWheel
namespace Go.Proofs.YtedolmjealgeoaaDoor
/-- The tied card, closed by the builder. -/
theorem planWheel_card : Rows.PlanWheelCardSaid :=
  Claim7.holds_tied_plain_at .later [] [.data] true (true, "bbafbde423e98613f5e97174a21643049e2d7c378a5b8ab44d7bdb0fcdc20f00") false
    RowPlanWheel.proved (fun _ h => by cases h) (by kernel_rfl) (fun _ h => by cases h) planWheel_row_tie rfl ⟨rfl, rfl⟩ (by kernel_rfl) rfl
    (fun f fn hf hfn => by
      obtain rfl : f = 12 := Option.some.inj ((show Tryd.prog.funcNamed "remontoir/remontoirlaw07.PlanWheel" = some 12 by kernel_rfl).symm.trans hf) |>.symm
      obtain rfl : fn = Tryd.f12 := (Option.some.inj (Tryd.func12.symm.trans hfn)).symm
      exact ⟨by kernel_rfl, fun j t ht => by
        rw [Tryd.params12] at ht
        rcases j with _ | j
        · obtain rfl : t = 29 := by simpa using ht.symm
          exact (show Tryd.prog.wantsStandIn 29 = false by kernel_rfl)
        rcases j with _ | j
        · obtain rfl : t = 42 := by simpa using ht.symm
          exact (show Tryd.prog.wantsStandIn 42 = false by kernel_rfl)
        rcases j with _ | j
        · obtain rfl : t = 51 := by simpa using ht.symm
          exact (show Tryd.prog.wantsStandIn 51 = false by kernel_rfl)
        simp at ht⟩)
    (by kernel_rfl)
#print axioms planWheel_card
end Go.Proofs.YtedolmjealgeoaaDoor
