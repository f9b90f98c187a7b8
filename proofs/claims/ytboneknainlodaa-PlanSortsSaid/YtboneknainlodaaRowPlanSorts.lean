/- The row of PlanSorts: each argument is laid open to its numbers, the call is taken by its contract, the arguments read as before. Conditions: the contract's own. -/
import Derived.Test.YtboneknainlodaaRows
import Derived.Test.YtboneknainlodaaOpen
import Derived.Test.YtboneknainlodaaCallPlanSorts
import Derived.WalkKit
import Derived.ProofKit
import Derived.OpenShut
import Derived.ShutString
import Derived.ChangeOld
import Derived.Below
import Derived.SizedLaws
namespace Go.Proofs.Ytboneknainlodaa.RowPlanSorts
open Go.ChangeShapes Go.WideShapes Go.ChangeAt Go.RowKit Go.Proofs.Ytboneknainlodaa.Open
set_option linter.unusedVariables false
set_option linter.unusedSimpArgs false
theorem flat3 : Flat Try.prog 3 [.i64] := flat_int (by kernel_rfl) (by kernel_rfl)
theorem flat23 : Flat Try.prog 23 [.u64] := flat_int (by kernel_rfl) (by kernel_rfl)
noncomputable def fields32 : Array Field := match Try.prog.underlying 32 with | some (.struct fs) => fs | _ => #[]
theorem under32 : Try.prog.underlying 32 = some (.struct fields32) := by kernel_rfl
theorem flat32 : Flat Try.prog 32 [.i64, .u64] := flat_struct [[.i64], [.u64]] (fs := (fields32)) under32 (by kernel_rfl) rfl (fun i f ks hf hk => match i, f, ks, hf, hk with
    | 0, _, _, hf, hk => by simp only [List.getElem?_cons_zero, List.getElem?_cons_succ, Option.some.injEq] at hk; subst hk; obtain rfl := Option.some.inj hf; exact ⟨flat3, rfl⟩
    | 1, _, _, hf, hk => by simp only [List.getElem?_cons_zero, List.getElem?_cons_succ, Option.some.injEq] at hk; subst hk; obtain rfl := Option.some.inj hf; exact ⟨flat23, rfl⟩
    | n + 2, _, _, _, hk => by simp at hk)
theorem own : ownKnob Try.prog.godebug = none := by kernel_rfl
theorem laidOut : laidOutB Try.prog = true := by kernel_rfl
set_option maxRecDepth 100000 in
theorem lifted (os : Os) (started : os.Started) (H : Type) (enc : TypeId × Value → H) :
    ReturnsInHanded {} Try.checked os 4 .any (Rows.planSortsSpec.pre6 enc Try.prog Try.f4 Rows.planSortsRow.domain false) (Rows.planSortsSpec.post enc Try.prog Try.f4 false true false false) := by
  refine returnsInHanded_of_change_sized (C := Try.checked) own started (by kernel_rfl) Try.func4
    (ChangeSpec.witness6 (enc := enc) (C := Try.checked) false ⟨#[], #[.slice none 0 0], []⟩ 8 (by kernel_rfl) (by kernel_rfl) (by kernel_rfl) (by kernel_rfl)) ?_
  intro W base args ds gs before hval0 hW hcnd hsz0 _
  have hsz : (DataW.weightsEach Try.prog (Try.f4.params.toList ++ Rows.planSortsSpec.plain.varTypes Try.prog) (ds ++ gs)).all (· ≤ reachBytes) = true := hsz0
  have hval : ∀ (j : Nat) t v, Try.f4.params[j]? = some t → args[j]? = some v → Value.okWide Try.prog W .any base t v := hval0
  have hW' := hW
  obtain ⟨p, q, hA0, hV, rfl, hfz, hnd⟩ := hW
  have hA : DataW.TrodAll enc Try.prog W 0 (fun _ => true) true Try.f4.params.toList args.toList ds p := hA0
  rw [Try.params4] at hA hval hsz
  obtain ⟨v0, vs0, d0, ds0, p0, q0, hargs, rfl, rfl, h0, r0⟩ := trodAll_cons hA
  obtain ⟨rfl, rfl, rfl⟩ := trodAll_nil r0
  obtain rfl : args = #[v0] := by cases args; simp_all
  obtain ⟨rfl, rfl⟩ := trodVars_none hV
  have k0 := h0
  have lt0 : ∀ x ∈ p0, x.block < W.heap.size := by obtain ⟨m, hm⟩ := k0; exact DataW.trod_lt m _ _ _ hm
  obtain ⟨a0, len0, c0, rfl⟩ := okWide_slice (t := 22) (e := 32) (by kernel_rfl) (hval 0 22 v0 rfl rfl)
  have y0 : len0 * 16 ≤ 140737488351232 := sized_rows hsz (j := 0) (t := 22) (e := 32) rfl rfl (by kernel_rfl) (by kernel_rfl) h0
  obtain ⟨l0, rfl, x0, m0, e0⟩ := open_rows (t := 22) (e := 32) (by kernel_rfl) flat32 h0
  clear hA0 hval0 hsz0 hsz
  refine (CallPlanSorts.calls W a0 c0 l0 e0 x0 m0 y0).mono fun e W' ⟨he, bel⟩ => ?_
  subst he
  exact ⟨_, rfl, _, _, _, [], _, [], hW', trodAll_mk1 (shut_bool (t := 4) (by kernel_rfl) _), (trodAll_cons_mk (Below.trod laidOut (by kernel_rfl) (of_decide_eq_true (by kernel_rfl)) k0 bel lt0) trodAll_mk0), rfl, bel.frame _, fun h => by cases h⟩
theorem over : Rows.planSortsRow.holds Try.pinned (OpenSpec.ofChange Rows.planSortsSpec) :=
  OpenClaim.holds_of_wide 4 Try.f4 rfl rfl rfl rfl rfl rfl rfl ⟨rfl, rfl, rfl, rfl, rfl⟩ rfl rfl rfl rfl rfl (by kernel_rfl) Try.func4 (by kernel_rfl)
    (of_decide_eq_true (by kernel_rfl)) (by unfold Func.isWrapper; first | (rw [if_pos (by decide +kernel)]; kernel_rfl) | (rw [if_neg (by decide +kernel)]; exact ⟨rfl, rfl⟩))
    (fun os started H enc _ => lifted os started H enc)
theorem proved : Rows.PlanSortsSaid := over
end Go.Proofs.Ytboneknainlodaa.RowPlanSorts
namespace Go.Proofs.Ytboneknainlodaa
/-- The row, under a short name, for the claim. -/
theorem planSorts_holds : Rows.PlanSortsSaid := RowPlanSorts.proved
#print axioms planSorts_holds
end Go.Proofs.Ytboneknainlodaa
