/- The row of TickTells: each argument is laid open to its numbers, the call is taken by its contract, the arguments read as before. Conditions: the contract's own. -/
import Derived.Test.YtfkknipkfcmiaaaRows
import Derived.Test.YtfkknipkfcmiaaaOpen
import Derived.Test.YtfkknipkfcmiaaaCallTickTells
import Derived.WalkKit
import Derived.ProofKit
import Derived.OpenShut
import Derived.ShutString
import Derived.ChangeOld
import Derived.Below
import Derived.SizedLaws
namespace Go.Proofs.Ytfkknipkfcmiaaa.RowTickTells
open Go.ChangeShapes Go.WideShapes Go.ChangeAt Go.RowKit Go.Proofs.Ytfkknipkfcmiaaa.Open
set_option linter.unusedVariables false
set_option linter.unusedSimpArgs false
theorem flat3 : Flat Try.prog 3 [.i64] := flat_int (by kernel_rfl) (by kernel_rfl)
theorem flat24 : Flat Try.prog 24 [.i64, .i64, .i64, .i64, .i64, .i64, .i64, .i64, .i64, .i64, .i64] := flat_array (n := 11) (by kernel_rfl) flat3 (by kernel_rfl)
theorem own : ownKnob Try.prog.godebug = none := by kernel_rfl
theorem laidOut : laidOutB Try.prog = true := by kernel_rfl
set_option maxRecDepth 100000 in
theorem lifted (os : Os) (started : os.Started) (H : Type) (enc : TypeId × Value → H) :
    ReturnsInHanded {} Try.checked os 7 .any (Rows.tickTellsSpec.pre6 enc Try.prog Try.f7 Rows.tickTellsRow.domain false) (Rows.tickTellsSpec.post enc Try.prog Try.f7 false true false false) := by
  refine returnsInHanded_of_change_sized (C := Try.checked) own started (by kernel_rfl) Try.func7
    (ChangeSpec.witness6 (enc := enc) (C := Try.checked) false ⟨#[], #[.int .u64 0, .int .u64 0, .agg #[.int .i64 0, .int .i64 0, .int .i64 0, .int .i64 0, .int .i64 0, .int .i64 0, .int .i64 0, .int .i64 0, .int .i64 0, .int .i64 0, .int .i64 0]], []⟩ 8 (by kernel_rfl) (by kernel_rfl) (by kernel_rfl) (by kernel_rfl)) ?_
  intro W base args ds gs before hval0 hW hcnd hsz0 _
  have hsz : (DataW.weightsEach Try.prog (Try.f7.params.toList ++ Rows.tickTellsSpec.plain.varTypes Try.prog) (ds ++ gs)).all (· ≤ reachBytes) = true := hsz0
  have hval : ∀ (j : Nat) t v, Try.f7.params[j]? = some t → args[j]? = some v → Value.okWide Try.prog W .any base t v := hval0
  have hW' := hW
  obtain ⟨p, q, hA0, hV, rfl, hfz, hnd⟩ := hW
  have hA : DataW.TrodAll enc Try.prog W 0 (fun _ => true) true Try.f7.params.toList args.toList ds p := hA0
  rw [Try.params7] at hA hval hsz
  obtain ⟨v0, vs0, d0, ds0, p0, q0, hargs, rfl, rfl, h0, r0⟩ := trodAll_cons hA
  obtain ⟨v1, vs1, d1, ds1, p1, q1, rfl, rfl, rfl, h1, r1⟩ := trodAll_cons r0
  obtain ⟨v2, vs2, d2, ds2, p2, q2, rfl, rfl, rfl, h2, r2⟩ := trodAll_cons r1
  obtain ⟨rfl, rfl, rfl⟩ := trodAll_nil r2
  obtain rfl : args = #[v0, v1, v2] := by cases args; simp_all
  obtain ⟨rfl, rfl⟩ := trodVars_none hV
  have k0 := h0
  have lt0 : ∀ x ∈ p0, x.block < W.heap.size := by obtain ⟨m, hm⟩ := k0; exact DataW.trod_lt m _ _ _ hm
  obtain ⟨a0, rfl, -, -, w0⟩ := open_int (show Try.prog.underlying 22 = some (.int .u64) by kernel_rfl) (hval 0 22 v0 rfl rfl) h0
  have k1 := h1
  have lt1 : ∀ x ∈ p1, x.block < W.heap.size := by obtain ⟨m, hm⟩ := k1; exact DataW.trod_lt m _ _ _ hm
  obtain ⟨a1, rfl, -, -, w1⟩ := open_int (show Try.prog.underlying 22 = some (.int .u64) by kernel_rfl) (hval 1 22 v1 rfl rfl) h1
  have k2 := h2
  have lt2 : ∀ x ∈ p2, x.block < W.heap.size := by obtain ⟨m, hm⟩ := k2; exact DataW.trod_lt m _ _ _ hm
  obtain ⟨n2, f2, e2⟩ := open_flat (t := 24) flat24 (by obtain ⟨cs, hcs, _⟩ := okWide_array (n := 11) (e := 3) (t := 24) (by kernel_rfl) (hval 2 24 v2 rfl rfl); exact ⟨cs, hcs⟩) h2
  obtain ⟨a2_0, n2, rfl, w2_0, f2⟩ := fits_cons f2
  obtain ⟨a2_1, n2, rfl, w2_1, f2⟩ := fits_cons f2
  obtain ⟨a2_2, n2, rfl, w2_2, f2⟩ := fits_cons f2
  obtain ⟨a2_3, n2, rfl, w2_3, f2⟩ := fits_cons f2
  obtain ⟨a2_4, n2, rfl, w2_4, f2⟩ := fits_cons f2
  obtain ⟨a2_5, n2, rfl, w2_5, f2⟩ := fits_cons f2
  obtain ⟨a2_6, n2, rfl, w2_6, f2⟩ := fits_cons f2
  obtain ⟨a2_7, n2, rfl, w2_7, f2⟩ := fits_cons f2
  obtain ⟨a2_8, n2, rfl, w2_8, f2⟩ := fits_cons f2
  obtain ⟨a2_9, n2, rfl, w2_9, f2⟩ := fits_cons f2
  obtain ⟨a2_10, n2, rfl, w2_10, f2⟩ := fits_cons f2
  obtain rfl := fits_nil f2
  replace e2 : v2 = .agg #[.int .i64 a2_0, .int .i64 a2_1, .int .i64 a2_2, .int .i64 a2_3, .int .i64 a2_4, .int .i64 a2_5, .int .i64 a2_6, .int .i64 a2_7, .int .i64 a2_8, .int .i64 a2_9, .int .i64 a2_10] := e2
  subst e2
  clear hA0 hval0 hsz0 hsz
  refine (CallTickTells.calls W a0 w0 a1 w1 a2_0 w2_0 a2_1 w2_1 a2_2 w2_2 a2_3 w2_3 a2_4 w2_4 a2_5 w2_5 a2_6 w2_6 a2_7 w2_7 a2_8 w2_8 a2_9 w2_9 a2_10 w2_10).mono fun e W' ⟨he, bel⟩ => ?_
  subst he
  exact ⟨_, rfl, _, _, _, [], _, [], hW', trodAll_mk1 (shut_bool (t := 4) (by kernel_rfl) _), (trodAll_cons_mk (Below.trod laidOut (by kernel_rfl) (of_decide_eq_true (by kernel_rfl)) k0 bel lt0) (trodAll_cons_mk (Below.trod laidOut (by kernel_rfl) (of_decide_eq_true (by kernel_rfl)) k1 bel lt1) (trodAll_cons_mk (Below.trod laidOut (by kernel_rfl) (of_decide_eq_true (by kernel_rfl)) k2 bel lt2) trodAll_mk0))), rfl, bel.frame _, fun h => by cases h⟩
theorem over : Rows.tickTellsRow.holds Try.pinned (OpenSpec.ofChange Rows.tickTellsSpec) :=
  OpenClaim.holds_of_wide 7 Try.f7 rfl rfl rfl rfl rfl rfl rfl ⟨rfl, rfl, rfl, rfl, rfl⟩ rfl rfl rfl rfl rfl (by kernel_rfl) Try.func7 (by kernel_rfl)
    (of_decide_eq_true (by kernel_rfl)) (by unfold Func.isWrapper; first | (rw [if_pos (by decide +kernel)]; kernel_rfl) | (rw [if_neg (by decide +kernel)]; exact ⟨rfl, rfl⟩))
    (fun os started H enc _ => lifted os started H enc)
theorem proved : Rows.TickTellsSaid := over
end Go.Proofs.Ytfkknipkfcmiaaa.RowTickTells
namespace Go.Proofs.Ytfkknipkfcmiaaa
/-- The row, under a short name, for the claim. -/
theorem tickTells_holds : Rows.TickTellsSaid := RowTickTells.proved
#print axioms tickTells_holds
end Go.Proofs.Ytfkknipkfcmiaaa
