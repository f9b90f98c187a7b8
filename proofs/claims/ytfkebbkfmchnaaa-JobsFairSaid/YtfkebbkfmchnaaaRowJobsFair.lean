/- The row of JobsFair: each argument is laid open to its numbers, the call is taken by its contract, the arguments read as before. Conditions: the contract's own. -/
import Derived.Test.YtfkebbkfmchnaaaRows
import Derived.Test.YtfkebbkfmchnaaaOpen
import Derived.Test.YtfkebbkfmchnaaaCallJobsFair
import Derived.WalkKit
import Derived.ProofKit
import Derived.OpenShut
import Derived.ShutString
import Derived.ChangeOld
import Derived.Below
import Derived.SizedLaws
namespace Go.Proofs.Ytfkebbkfmchnaaa.RowJobsFair
open Go.ChangeShapes Go.WideShapes Go.ChangeAt Go.RowKit Go.Proofs.Ytfkebbkfmchnaaa.Open
set_option linter.unusedVariables false
set_option linter.unusedSimpArgs false
set_option maxRecDepth 100000 in
theorem flat22 : Flat Try.prog 22 [.u16] := flat_int (by kernel_rfl) (by kernel_rfl)
set_option maxRecDepth 100000 in
theorem flat23 : Flat Try.prog 23 [.u16, .u16] := flat_array (n := 2) (by kernel_rfl) flat22 (by kernel_rfl)
set_option maxRecDepth 100000 in
theorem flat5 : Flat Try.prog 5 [.u8] := flat_int (by kernel_rfl) (by kernel_rfl)
theorem own : ownKnob Try.prog.godebug = none := by kernel_rfl
theorem laidOut : laidOutB Try.prog = true := by kernel_rfl
set_option maxRecDepth 100000 in
theorem lifted (os : Os) (started : os.Started) (H : Type) (enc : TypeId × Value → H) :
    ReturnsInHanded {} Try.checked os 3 .any (Rows.jobsFairSpec.pre6 enc Try.prog Try.f3 Rows.jobsFairRow.domain false) (Rows.jobsFairSpec.post enc Try.prog Try.f3 false true false false) := by
  refine returnsInHanded_of_change_sized (C := Try.checked) own started (by kernel_rfl) Try.func3
    (ChangeSpec.witness6 (enc := enc) (C := Try.checked) false ⟨#[], #[.agg #[.int .u16 0, .int .u16 0], .int .u8 0, .slice none 0 0], []⟩ 8 (by kernel_rfl) (by kernel_rfl) (by kernel_rfl) (by kernel_rfl)) ?_
  intro W base args ds gs before hval0 hW hcnd hsz0 _
  have hsz : (DataW.weightsEach Try.prog (Try.f3.params.toList ++ Rows.jobsFairSpec.plain.varTypes Try.prog) (ds ++ gs)).all (· ≤ reachBytes) = true := hsz0
  have hval : ∀ (j : Nat) t v, Try.f3.params[j]? = some t → args[j]? = some v → Value.okWide Try.prog W .any base t v := hval0
  have hW' := hW
  obtain ⟨p, q, hA0, hV, rfl, hfz, hnd⟩ := hW
  have hA : DataW.TrodAll enc Try.prog W 0 (fun _ => true) true Try.f3.params.toList args.toList ds p := hA0
  rw [Try.params3] at hA hval hsz
  obtain ⟨v0, vs0, d0, ds0, p0, q0, hargs, rfl, rfl, h0, r0⟩ := trodAll_cons hA
  obtain ⟨v1, vs1, d1, ds1, p1, q1, rfl, rfl, rfl, h1, r1⟩ := trodAll_cons r0
  obtain ⟨v2, vs2, d2, ds2, p2, q2, rfl, rfl, rfl, h2, r2⟩ := trodAll_cons r1
  obtain ⟨rfl, rfl, rfl⟩ := trodAll_nil r2
  obtain rfl : args = #[v0, v1, v2] := by cases args; simp_all
  obtain ⟨rfl, rfl⟩ := trodVars_none hV
  have k0 := h0
  have lt0 : ∀ x ∈ p0, x.block < W.heap.size := by obtain ⟨m, hm⟩ := k0; exact DataW.trod_lt m _ _ _ hm
  obtain ⟨n0, f0, e0⟩ := open_flat (t := 23) flat23 (by obtain ⟨cs, hcs, _⟩ := okWide_array (n := 2) (e := 22) (t := 23) (by kernel_rfl) (hval 0 23 v0 rfl rfl); exact ⟨cs, hcs⟩) h0
  obtain ⟨a0_0, n0, rfl, w0_0, f0⟩ := fits_cons f0
  obtain ⟨a0_1, n0, rfl, w0_1, f0⟩ := fits_cons f0
  obtain rfl := fits_nil f0
  replace e0 : v0 = .agg #[.int .u16 a0_0, .int .u16 a0_1] := e0
  subst e0
  have k1 := h1
  have lt1 : ∀ x ∈ p1, x.block < W.heap.size := by obtain ⟨m, hm⟩ := k1; exact DataW.trod_lt m _ _ _ hm
  obtain ⟨a1, rfl, -, -, w1⟩ := open_int (show Try.prog.underlying 5 = some (.int .u8) by kernel_rfl) (hval 1 5 v1 rfl rfl) h1
  have k2 := h2
  have lt2 : ∀ x ∈ p2, x.block < W.heap.size := by obtain ⟨m, hm⟩ := k2; exact DataW.trod_lt m _ _ _ hm
  obtain ⟨a2, len2, c2, rfl⟩ := okWide_slice (t := 24) (e := 5) (by kernel_rfl) (hval 2 24 v2 rfl rfl)
  have y2 : len2 * 1 ≤ 140737488351232 := sized_rows hsz (j := 2) (t := 24) (e := 5) rfl rfl (by kernel_rfl) (by kernel_rfl) h2
  obtain ⟨l2, rfl, x2, m2, e2⟩ := open_rows (t := 24) (e := 5) (by kernel_rfl) flat5 h2
  clear hA0 hval0 hsz0 hsz
  refine (CallJobsFair.calls W a0_0 w0_0 a0_1 w0_1 a1 w1 a2 c2 l2 e2 x2 m2 y2).mono fun e W' ⟨he, bel⟩ => ?_
  subst he
  exact ⟨_, rfl, _, _, _, [], _, [], hW', trodAll_mk1 (shut_bool (t := 4) (by kernel_rfl) _), (trodAll_cons_mk (Below.trod laidOut (by kernel_rfl) (of_decide_eq_true (by kernel_rfl)) k0 bel lt0) (trodAll_cons_mk (Below.trod laidOut (by kernel_rfl) (of_decide_eq_true (by kernel_rfl)) k1 bel lt1) (trodAll_cons_mk (Below.trod laidOut (by kernel_rfl) (of_decide_eq_true (by kernel_rfl)) k2 bel lt2) trodAll_mk0))), rfl, bel.frame _, fun h => by cases h⟩
theorem over : Rows.jobsFairRow.holds Try.pinned (OpenSpec.ofChange Rows.jobsFairSpec) :=
  OpenClaim.holds_of_wide 3 Try.f3 rfl rfl rfl rfl rfl rfl rfl ⟨rfl, rfl, rfl, rfl, rfl⟩ rfl rfl rfl rfl rfl (by kernel_rfl) Try.func3 (by kernel_rfl)
    (of_decide_eq_true (by kernel_rfl)) (by unfold Func.isWrapper; first | (rw [if_pos (by decide +kernel)]; kernel_rfl) | (rw [if_neg (by decide +kernel)]; exact ⟨rfl, rfl⟩))
    (fun os started H enc _ => lifted os started H enc)
theorem proved : Rows.JobsFairSaid := over
end Go.Proofs.Ytfkebbkfmchnaaa.RowJobsFair
namespace Go.Proofs.Ytfkebbkfmchnaaa
/-- The row, under a short name, for the claim. -/
theorem jobsFair_holds : Rows.JobsFairSaid := RowJobsFair.proved
#print axioms jobsFair_holds
end Go.Proofs.Ytfkebbkfmchnaaa
