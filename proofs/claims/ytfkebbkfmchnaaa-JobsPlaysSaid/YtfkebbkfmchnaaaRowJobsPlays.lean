/- The row of JobsPlays: each argument is laid open to its numbers, the call is taken by its contract, the arguments read as before. Conditions: the contract's own. -/
import Derived.Test.YtfkebbkfmchnaaaRows
import Derived.Test.YtfkebbkfmchnaaaOpen
import Derived.Test.YtfkebbkfmchnaaaCallJobsPlays
import Derived.WalkKit
import Derived.ProofKit
import Derived.OpenShut
import Derived.ShutString
import Derived.ChangeOld
import Derived.Below
import Derived.SizedLaws
namespace Go.Proofs.Ytfkebbkfmchnaaa.RowJobsPlays
open Go.ChangeShapes Go.WideShapes Go.ChangeAt Go.RowKit Go.Proofs.Ytfkebbkfmchnaaa.Open
set_option linter.unusedVariables false
set_option linter.unusedSimpArgs false
set_option maxRecDepth 100000 in
theorem flat3 : Flat Try.prog 3 [.i64] := flat_int (by kernel_rfl) (by kernel_rfl)
noncomputable def fields56 : Array Field := match Try.prog.underlying 56 with | some (.struct fs) => fs | _ => #[]
theorem under56 : Try.prog.underlying 56 = some (.struct fields56) := by kernel_rfl
set_option maxRecDepth 100000 in
theorem flat56 : Flat Try.prog 56 [.i64, .i64, .i64] := flat_struct [[.i64], [.i64], [.i64]] (fs := (fields56)) under56 (by kernel_rfl) rfl (fun i f ks hf hk => match i, f, ks, hf, hk with
    | 0, _, _, hf, hk => by simp only [List.getElem?_cons_zero, List.getElem?_cons_succ, Option.some.injEq] at hk; subst hk; obtain rfl := Option.some.inj hf; exact ⟨flat3, rfl⟩
    | 1, _, _, hf, hk => by simp only [List.getElem?_cons_zero, List.getElem?_cons_succ, Option.some.injEq] at hk; subst hk; obtain rfl := Option.some.inj hf; exact ⟨flat3, rfl⟩
    | 2, _, _, hf, hk => by simp only [List.getElem?_cons_zero, List.getElem?_cons_succ, Option.some.injEq] at hk; subst hk; obtain rfl := Option.some.inj hf; exact ⟨flat3, rfl⟩
    | n + 3, _, _, _, hk => by simp at hk)
set_option maxRecDepth 100000 in
theorem flat31 : Flat Try.prog 31 [.u64] := flat_int (by kernel_rfl) (by kernel_rfl)
noncomputable def fields51 : Array Field := match Try.prog.underlying 51 with | some (.struct fs) => fs | _ => #[]
theorem under51 : Try.prog.underlying 51 = some (.struct fields51) := by kernel_rfl
set_option maxRecDepth 100000 in
theorem flat51 : Flat Try.prog 51 [.i64, .i64, .i64, .u64] := flat_struct [[.i64], [.i64], [.i64], [.u64]] (fs := (fields51)) under51 (by kernel_rfl) rfl (fun i f ks hf hk => match i, f, ks, hf, hk with
    | 0, _, _, hf, hk => by simp only [List.getElem?_cons_zero, List.getElem?_cons_succ, Option.some.injEq] at hk; subst hk; obtain rfl := Option.some.inj hf; exact ⟨flat3, rfl⟩
    | 1, _, _, hf, hk => by simp only [List.getElem?_cons_zero, List.getElem?_cons_succ, Option.some.injEq] at hk; subst hk; obtain rfl := Option.some.inj hf; exact ⟨flat3, rfl⟩
    | 2, _, _, hf, hk => by simp only [List.getElem?_cons_zero, List.getElem?_cons_succ, Option.some.injEq] at hk; subst hk; obtain rfl := Option.some.inj hf; exact ⟨flat3, rfl⟩
    | 3, _, _, hf, hk => by simp only [List.getElem?_cons_zero, List.getElem?_cons_succ, Option.some.injEq] at hk; subst hk; obtain rfl := Option.some.inj hf; exact ⟨flat31, rfl⟩
    | n + 4, _, _, _, hk => by simp at hk)
theorem own : ownKnob Try.prog.godebug = none := by kernel_rfl
theorem laidOut : laidOutB Try.prog = true := by kernel_rfl
set_option maxRecDepth 100000 in
theorem lifted (os : Os) (started : os.Started) (H : Type) (enc : TypeId × Value → H) :
    ReturnsInHanded {} Try.checked os 6 .any (Rows.jobsPlaysSpec.pre6 enc Try.prog Try.f6 Rows.jobsPlaysRow.domain false) (Rows.jobsPlaysSpec.post enc Try.prog Try.f6 false true false false) := by
  refine returnsInHanded_of_change_sized (C := Try.checked) own started (by kernel_rfl) Try.func6
    (ChangeSpec.witness6 (enc := enc) (C := Try.checked) false ⟨#[], #[.agg #[.int .i64 0, .int .i64 0, .int .i64 0], .slice none 0 0], []⟩ 8 (by kernel_rfl) (by kernel_rfl) (by kernel_rfl) (by kernel_rfl)) ?_
  intro W base args ds gs before hval0 hW hcnd hsz0 _
  have hsz : (DataW.weightsEach Try.prog (Try.f6.params.toList ++ Rows.jobsPlaysSpec.plain.varTypes Try.prog) (ds ++ gs)).all (· ≤ reachBytes) = true := hsz0
  have hval : ∀ (j : Nat) t v, Try.f6.params[j]? = some t → args[j]? = some v → Value.okWide Try.prog W .any base t v := hval0
  have hW' := hW
  obtain ⟨p, q, hA0, hV, rfl, hfz, hnd⟩ := hW
  have hA : DataW.TrodAll enc Try.prog W 0 (fun _ => true) true Try.f6.params.toList args.toList ds p := hA0
  rw [Try.params6] at hA hval hsz
  obtain ⟨v0, vs0, d0, ds0, p0, q0, hargs, rfl, rfl, h0, r0⟩ := trodAll_cons hA
  obtain ⟨v1, vs1, d1, ds1, p1, q1, rfl, rfl, rfl, h1, r1⟩ := trodAll_cons r0
  obtain ⟨rfl, rfl, rfl⟩ := trodAll_nil r1
  obtain rfl : args = #[v0, v1] := by cases args; simp_all
  obtain ⟨rfl, rfl⟩ := trodVars_none hV
  have k0 := h0
  have lt0 : ∀ x ∈ p0, x.block < W.heap.size := by obtain ⟨m, hm⟩ := k0; exact DataW.trod_lt m _ _ _ hm
  obtain ⟨n0, f0, e0⟩ := open_flat (t := 56) flat56 (by obtain ⟨cs, hcs, _⟩ := okWide_struct (fs := fields56) (t := 56) (by kernel_rfl) (hval 0 56 v0 rfl rfl); exact ⟨cs, hcs⟩) h0
  obtain ⟨a0_0, n0, rfl, w0_0, f0⟩ := fits_cons f0
  obtain ⟨a0_1, n0, rfl, w0_1, f0⟩ := fits_cons f0
  obtain ⟨a0_2, n0, rfl, w0_2, f0⟩ := fits_cons f0
  obtain rfl := fits_nil f0
  replace e0 : v0 = .agg #[.int .i64 a0_0, .int .i64 a0_1, .int .i64 a0_2] := e0
  subst e0
  have k1 := h1
  have lt1 : ∀ x ∈ p1, x.block < W.heap.size := by obtain ⟨m, hm⟩ := k1; exact DataW.trod_lt m _ _ _ hm
  obtain ⟨a1, len1, c1, rfl⟩ := okWide_slice (t := 48) (e := 51) (by kernel_rfl) (hval 1 48 v1 rfl rfl)
  have y1 : len1 * 32 ≤ 140737488351232 := sized_rows hsz (j := 1) (t := 48) (e := 51) rfl rfl (by kernel_rfl) (by kernel_rfl) h1
  obtain ⟨l1, rfl, x1, m1, e1⟩ := open_rows (t := 48) (e := 51) (by kernel_rfl) flat51 h1
  clear hA0 hval0 hsz0 hsz
  refine (CallJobsPlays.calls W a0_0 w0_0 a0_1 w0_1 a0_2 w0_2 a1 c1 l1 e1 x1 m1 y1).mono fun e W' ⟨he, bel⟩ => ?_
  subst he
  exact ⟨_, rfl, _, _, _, [], _, [], hW', trodAll_mk1 (shut_bool (t := 4) (by kernel_rfl) _), (trodAll_cons_mk (Below.trod laidOut (by kernel_rfl) (of_decide_eq_true (by kernel_rfl)) k0 bel lt0) (trodAll_cons_mk (Below.trod laidOut (by kernel_rfl) (of_decide_eq_true (by kernel_rfl)) k1 bel lt1) trodAll_mk0)), rfl, bel.frame _, fun h => by cases h⟩
theorem over : Rows.jobsPlaysRow.holds Try.pinned (OpenSpec.ofChange Rows.jobsPlaysSpec) :=
  OpenClaim.holds_of_wide 6 Try.f6 rfl rfl rfl rfl rfl rfl rfl ⟨rfl, rfl, rfl, rfl, rfl⟩ rfl rfl rfl rfl rfl (by kernel_rfl) Try.func6 (by kernel_rfl)
    (of_decide_eq_true (by kernel_rfl)) (by unfold Func.isWrapper; first | (rw [if_pos (by decide +kernel)]; kernel_rfl) | (rw [if_neg (by decide +kernel)]; exact ⟨rfl, rfl⟩))
    (fun os started H enc _ => lifted os started H enc)
theorem proved : Rows.JobsPlaysSaid := over
end Go.Proofs.Ytfkebbkfmchnaaa.RowJobsPlays
namespace Go.Proofs.Ytfkebbkfmchnaaa
/-- The row, under a short name, for the claim. -/
theorem jobsPlays_holds : Rows.JobsPlaysSaid := RowJobsPlays.proved
#print axioms jobsPlays_holds
end Go.Proofs.Ytfkebbkfmchnaaa
