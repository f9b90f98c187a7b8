/- The row of WheelPlays: each argument is laid open to its numbers, the call is taken by its contract, the arguments read as before. Conditions: the contract's own. -/
import Derived.Test.YtedolmjealgeoaaDoorRows
import Derived.Test.YtedolmjealgeoaaDoorOpen
import Derived.Test.YtedolmjealgeoaaDoorCallWheelPlays
import Derived.WalkKit
import Derived.ProofKit
import Derived.OpenShut
import Derived.ShutString
import Derived.ChangeOld
import Derived.Below
import Derived.SizedLaws
import Derived.LaidMore
import Derived.Stop.Joined
import Derived.Lib.LaidTab
import Derived.Test.YtedolmjealgeoaaDoorTie
import Derived.Test.YtedolmjealgeoaaDoorCards
import Derived.SevenTiedAt
import Derived.Test.YtedolmjealgeoaaDoorTz
namespace Go.Proofs.YtedolmjealgeoaaDoor.RowWheelPlays
open Go.ChangeShapes Go.WideShapes Go.ChangeAt Go.RowKit Go.Proofs.YtedolmjealgeoaaDoor.Open Go.Proofs.YtedolmjealgeoaaDoor
set_option linter.unusedVariables false
set_option linter.unusedSimpArgs false
set_option maxRecDepth 100000 in
theorem flat3 : Flat Tryd.prog 3 [.i64] := flat_int (by kernel_rfl) (by kernel_rfl)
set_option maxRecDepth 100000 in
theorem flat29 : Flat Tryd.prog 29 [.u64] := flat_int (by kernel_rfl) (by kernel_rfl)
noncomputable def fields82 : Array Field := match Tryd.prog.underlying 82 with | some (.struct fs) => fs | _ => #[]
theorem under82 : Tryd.prog.underlying 82 = some (.struct fields82) := by kernel_rfl
set_option maxRecDepth 100000 in
theorem flat82 : Flat Tryd.prog 82 [.i64, .i64, .u64] := flat_struct [[.i64], [.i64], [.u64]] (fs := (fields82)) under82 (by kernel_rfl) rfl (fun i f ks hf hk => match i, f, ks, hf, hk with
    | 0, _, _, hf, hk => by simp only [List.getElem?_cons_zero, List.getElem?_cons_succ, Option.some.injEq] at hk; subst hk; obtain rfl := Option.some.inj hf; exact ⟨flat3, rfl⟩
    | 1, _, _, hf, hk => by simp only [List.getElem?_cons_zero, List.getElem?_cons_succ, Option.some.injEq] at hk; subst hk; obtain rfl := Option.some.inj hf; exact ⟨flat3, rfl⟩
    | 2, _, _, hf, hk => by simp only [List.getElem?_cons_zero, List.getElem?_cons_succ, Option.some.injEq] at hk; subst hk; obtain rfl := Option.some.inj hf; exact ⟨flat29, rfl⟩
    | n + 3, _, _, _, hk => by simp at hk)
theorem own : ownKnob Tryd.prog.godebug = none := by kernel_rfl
theorem laidOut : laidOutB Tryd.prog = true := by kernel_rfl
theorem door_met (os : Os) (args : Array Value) : laidMetH Tryd.prog [("math/bits.deBruijn64tab", Rows.laid_math_bits_deBruijn64tab)] ((World.doorLaid Tryd.prog 400 os).forCall (fun _ _ => 0) ⟨#[], args, []⟩).memory :=
  laidMetH_of_parts3 (fuel := 8) (laidMet_of_run' 8 (by kernel_rfl) (by kernel_rfl)) (by kernel_rfl) (by kernel_rfl)
theorem tab_of {W : World} (h : laidMetH Tryd.prog [("math/bits.deBruijn64tab", Rows.laid_math_bits_deBruijn64tab)] W) : Tz.TabOk W := by
  rw [MakeChecks.laidMetH_plain _ _ _ (by kernel_rfl)] at h
  have h2 : laidMet Tryd.prog [("math/bits.deBruijn64tab", Lib.tabData .u8 (Lib.deBruijn64tab.map fun n : Nat => (n : Int)))] W := h
  have h3 := Lib.tabIs_of_head (g := 0) (t := 150) (e := 5) (n := 64) (by kernel_rfl) (by kernel_rfl) (by kernel_rfl) (by kernel_rfl) (by kernel_rfl) (by kernel_rfl) h2
  intro j hj
  have h4 := h3.cell (g := 0) (by kernel_rfl) j (by simpa using hj)
  rw [h4]
  congr 2
  simp [List.getD, List.getElem?_eq_getElem hj]
set_option maxRecDepth 100000 in
theorem lifted (os : Os) (started : os.Started) (H : Type) (enc : TypeId × Value → H) :
    ReturnsInHanded {} Tryd.checked os 9 .any (fun w args => (Rows.wheelPlaysSpec.pre enc Tryd.prog Tryd.f9 [] false w args ∧ laidMetH Tryd.prog [("math/bits.deBruijn64tab", Rows.laid_math_bits_deBruijn64tab)] w) ∧ sizedMet enc Tryd.prog Tryd.f9 (OpenSpec.ofChange Rows.wheelPlaysSpec) false w args) (Rows.wheelPlaysSpec.post enc Tryd.prog Tryd.f9 false true false false) := by
  refine returnsInHanded_of_change_and (C := Tryd.checked) (X := fun w _ => laidMetH Tryd.prog [("math/bits.deBruijn64tab", Rows.laid_math_bits_deBruijn64tab)] w) (fun _ _ _ hh h => h.of_heap hh) own started (by kernel_rfl) Tryd.func9
    (ChangeSpec.witness_shaped (enc := enc) (C := Tryd.checked) (os := os) (X := fun w _ => laidMetH Tryd.prog [("math/bits.deBruijn64tab", Rows.laid_math_bits_deBruijn64tab)] w) false (World.doorLaid Tryd.prog 400 os) #[.int .u64 0, .slice none 0 0] 8 rfl (World.shaped_of_RefB (by kernel_rfl) (by kernel_rfl)) (by kernel_rfl) (by kernel_rfl) (by kernel_rfl) (door_met os _)) ?_
  intro W base args ds gs before hval0 hW hcnd hsz0 hL _
  have hsz : (DataW.weightsEach Tryd.prog (Tryd.f9.params.toList ++ Rows.wheelPlaysSpec.plain.varTypes Tryd.prog) (ds ++ gs)).all (· ≤ reachBytes) = true := hsz0
  have hval : ∀ (j : Nat) t v, Tryd.f9.params[j]? = some t → args[j]? = some v → Value.okWide Tryd.prog W .any base t v := hval0
  have hW' := hW
  obtain ⟨p, q, hA0, hV, rfl, hfz, hnd⟩ := hW
  have hA : DataW.TrodAll enc Tryd.prog W 0 (fun _ => true) true Tryd.f9.params.toList args.toList ds p := hA0
  rw [Tryd.params9] at hA hval hsz
  obtain ⟨v0, vs0, d0, ds0, p0, q0, hargs, rfl, rfl, h0, r0⟩ := trodAll_cons hA
  obtain ⟨v1, vs1, d1, ds1, p1, q1, rfl, rfl, rfl, h1, r1⟩ := trodAll_cons r0
  obtain ⟨rfl, rfl, rfl⟩ := trodAll_nil r1
  obtain rfl : args = #[v0, v1] := by cases args; simp_all
  obtain ⟨rfl, rfl⟩ := trodVars_none hV
  have k0 := h0
  have lt0 : ∀ x ∈ p0, x.block < W.heap.size := by obtain ⟨m, hm⟩ := k0; exact DataW.trod_lt m _ _ _ hm
  obtain ⟨a0, rfl, -, -, w0⟩ := open_int (show Tryd.prog.underlying 29 = some (.int .u64) by kernel_rfl) (hval 0 29 v0 rfl rfl) h0
  have k1 := h1
  have lt1 : ∀ x ∈ p1, x.block < W.heap.size := by obtain ⟨m, hm⟩ := k1; exact DataW.trod_lt m _ _ _ hm
  obtain ⟨a1, len1, c1, rfl⟩ := okWide_slice (t := 77) (e := 82) (by kernel_rfl) (hval 1 77 v1 rfl rfl)
  have y1 : len1 * 24 ≤ 140737488351232 := sized_rows hsz (j := 1) (t := 77) (e := 82) rfl rfl (by kernel_rfl) (by kernel_rfl) h1
  obtain ⟨l1, rfl, x1, m1, e1⟩ := open_rows (t := 77) (e := 82) (by kernel_rfl) flat82 h1
  clear hA0 hval0 hsz0 hsz
  refine (CallWheelPlays.calls W (tab_of hL) a0 w0 a1 c1 l1 e1 x1 m1 y1).mono fun e W' ⟨he, bel⟩ => ?_
  subst he
  exact ⟨_, rfl, _, _, _, [], _, [], hW', trodAll_mk1 (shut_bool (t := 4) (by kernel_rfl) _), (trodAll_cons_mk (Below.trod laidOut (by kernel_rfl) (of_decide_eq_true (by kernel_rfl)) k0 bel lt0) (trodAll_cons_mk (Below.trod laidOut (by kernel_rfl) (of_decide_eq_true (by kernel_rfl)) k1 bel lt1) trodAll_mk0)), rfl, bel.frame _, fun h => by cases h⟩
theorem over : Rows.wheelPlaysRow.holds Tryd.pinned (OpenSpec.ofChange Rows.wheelPlaysSpec) :=
  OpenClaim.holds_of_wide 9 Tryd.f9 rfl rfl rfl rfl rfl rfl rfl ⟨rfl, rfl, rfl, rfl, rfl⟩ rfl rfl rfl rfl rfl (by kernel_rfl) Tryd.func9 (by kernel_rfl)
    (of_decide_eq_true (by kernel_rfl)) (by unfold Func.isWrapper; first | (rw [if_pos (by decide +kernel)]; kernel_rfl) | (rw [if_neg (by decide +kernel)]; exact ⟨rfl, rfl⟩))
    (fun os started H enc _ => lifted os started H enc)
theorem proved : Rows.WheelPlaysSaid := over
end Go.Proofs.YtedolmjealgeoaaDoor.RowWheelPlays
namespace Go.Proofs.YtedolmjealgeoaaDoor
/-- The tied card, closed by the builder. -/
theorem wheelPlays_card : Rows.WheelPlaysCardSaid :=
  Claim7.holds_tied_plain_at .later [] [.data] true (true, "bbafbde423e98613f5e97174a21643049e2d7c378a5b8ab44d7bdb0fcdc20f00") false
    RowWheelPlays.proved (fun _ h => by cases h) (by kernel_rfl) (fun _ h => by cases h) wheelPlays_row_tie rfl ⟨rfl, rfl⟩ (by kernel_rfl) rfl
    (fun f fn hf hfn => by
      obtain rfl : f = 9 := Option.some.inj ((show Tryd.prog.funcNamed "remontoir/remontoirlaw06.WheelPlays" = some 9 by kernel_rfl).symm.trans hf) |>.symm
      obtain rfl : fn = Tryd.f9 := (Option.some.inj (Tryd.func9.symm.trans hfn)).symm
      exact ⟨by kernel_rfl, fun j t ht => by
        rw [Tryd.params9] at ht
        rcases j with _ | j
        · obtain rfl : t = 29 := by simpa using ht.symm
          exact (show Tryd.prog.wantsStandIn 29 = false by kernel_rfl)
        rcases j with _ | j
        · obtain rfl : t = 77 := by simpa using ht.symm
          exact (show Tryd.prog.wantsStandIn 77 = false by kernel_rfl)
        simp at ht⟩)
    (by kernel_rfl)
#print axioms wheelPlays_card
end Go.Proofs.YtedolmjealgeoaaDoor
