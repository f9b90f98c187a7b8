/- The row of TickBack: each argument is laid open to its numbers, the call is taken by its contract, the arguments read as before. Conditions: the contract's own. -/
import Derived.Test.YtfkknipkfcmiaaaRows
import Derived.Test.YtfkknipkfcmiaaaOpen
import Derived.Test.YtfkknipkfcmiaaaCallTickBack
import Derived.WalkKit
import Derived.ProofKit
import Derived.OpenShut
import Derived.ShutString
import Derived.ChangeOld
import Derived.Below
import Derived.SizedLaws
namespace Go.Proofs.Ytfkknipkfcmiaaa.RowTickBack
open Go.ChangeShapes Go.WideShapes Go.ChangeAt Go.RowKit Go.Proofs.Ytfkknipkfcmiaaa.Open
set_option linter.unusedVariables false
set_option linter.unusedSimpArgs false
theorem flat3 : Flat Try.prog 3 [.i64] := flat_int (by kernel_rfl) (by kernel_rfl)
theorem flat24 : Flat Try.prog 24 [.i64, .i64, .i64, .i64, .i64, .i64, .i64, .i64, .i64, .i64, .i64] := flat_array (n := 11) (by kernel_rfl) flat3 (by kernel_rfl)
theorem own : ownKnob Try.prog.godebug = none := by kernel_rfl
theorem laidOut : laidOutB Try.prog = true := by kernel_rfl
set_option maxRecDepth 100000 in
theorem lifted (os : Os) (started : os.Started) (H : Type) (enc : TypeId × Value → H) :
    ReturnsInHanded {} Try.checked os 6 .any (Rows.tickBackSpec.pre6 enc Try.prog Try.f6 Rows.tickBackRow.domain false) (Rows.tickBackSpec.post enc Try.prog Try.f6 false true false false) := by
  refine returnsInHanded_of_change_sized (C := Try.checked) own started (by kernel_rfl) Try.func6
    (ChangeSpec.witness6 (enc := enc) (C := Try.checked) false ⟨#[], #[.int .u64 0, .agg #[.int .i64 0, .int .i64 0, .int .i64 0, .int .i64 0, .int .i64 0, .int .i64 0, .int .i64 0, .int .i64 0, .int .i64 0, .int .i64 0, .int .i64 0]], []⟩ 8 (by kernel_rfl) (by kernel_rfl) (by kernel_rfl) (by kernel_rfl)) ?_
  intro W base args ds gs before hval0 hW hcnd hsz0 _
  have hsz : (DataW.weightsEach Try.prog (Try.f6.params.toList ++ Rows.tickBackSpec.plain.varTypes Try.prog) (ds ++ gs)).all (· ≤ reachBytes) = true := hsz0
  have hval : ∀ (j : Nat) t v, Try.f6.params[j]? = some t → args[j]? = some v → Value.okWide Try.prog W .any base t v := hval0
  have hW' := hW
  obtain ⟨p, q, hA0, hV, rfl, hfz, hnd⟩ := hW
  have hA : DataW.TrodAll enc Try.prog W 0 (fun _ => true) true Try.f6.params.toList args.toList ds p := hA0
  rw [Try.params6] at hA hval hsz
  obtain ⟨v0, vs0, d0, ds0, p0, q0, hargs, rfl, rfl, h0, r0⟩ := trodAll_cons hA
  obtain ⟨v1, vs1, d1, ds1, p1, q1, rfl, rfl, rfl, h1, r1⟩ := trodAll_cons r0
  obtain ⟨rfl, rfl, rfl⟩ := trodAll_nil r1
  obtain rfl : args = #[v0, v1] := by cases args; simp_all
  obtain ⟨rfl, rfl⟩ := trodVars_none hV
  have k0 := h0
  have lt0 : ∀ x ∈ p0, x.block < W.heap.size := by obtain ⟨m, hm⟩ := k0; exact DataW.trod_lt m _ _ _ hm
  obtain ⟨a0, rfl, -, -, w0⟩ := open_int (show Try.prog.underlying 22 = some (.int .u64) by kernel_rfl) (hval 0 22 v0 rfl rfl) h0
  have k1 := h1
  have lt1 : ∀ x ∈ p1, x.block < W.heap.size := by obtain ⟨m, hm⟩ := k1; exact DataW.trod_lt m _ _ _ hm
  obtain ⟨n1, f1, e1⟩ := open_flat (t := 24) flat24 (by obtain ⟨cs, hcs, _⟩ := okWide_array (n := 11) (e := 3) (t := 24) (by kernel_rfl) (hval 1 24 v1 rfl rfl); exact ⟨cs, hcs⟩) h1
  obtain ⟨a1_0, n1, rfl, w1_0, f1⟩ := fits_cons f1
  obtain ⟨a1_1, n1, rfl, w1_1, f1⟩ := fits_cons f1
  obtain ⟨a1_2, n1, rfl, w1_2, f1⟩ := fits_cons f1
  obtain ⟨a1_3, n1, rfl, w1_3, f1⟩ := fits_cons f1
  obtain ⟨a1_4, n1, rfl, w1_4, f1⟩ := fits_cons f1
  obtain ⟨a1_5, n1, rfl, w1_5, f1⟩ := fits_cons f1
  obtain ⟨a1_6, n1, rfl, w1_6, f1⟩ := fits_cons f1
  obtain ⟨a1_7, n1, rfl, w1_7, f1⟩ := fits_cons f1
  obtain ⟨a1_8, n1, rfl, w1_8, f1⟩ := fits_cons f1
  obtain ⟨a1_9, n1, rfl, w1_9, f1⟩ := fits_cons f1
  obtain ⟨a1_10, n1, rfl, w1_10, f1⟩ := fits_cons f1
  obtain rfl := fits_nil f1
  replace e1 : v1 = .agg #[.int .i64 a1_0, .int .i64 a1_1, .int .i64 a1_2, .int .i64 a1_3, .int .i64 a1_4, .int .i64 a1_5, .int .i64 a1_6, .int .i64 a1_7, .int .i64 a1_8, .int .i64 a1_9, .int .i64 a1_10] := e1
  subst e1
  clear hA0 hval0 hsz0 hsz
  refine (CallTickBack.calls W a0 w0 a1_0 w1_0 a1_1 w1_1 a1_2 w1_2 a1_3 w1_3 a1_4 w1_4 a1_5 w1_5 a1_6 w1_6 a1_7 w1_7 a1_8 w1_8 a1_9 w1_9 a1_10 w1_10).mono fun e W' ⟨he, bel⟩ => ?_
  subst he
  exact ⟨_, rfl, _, _, _, [], _, [], hW', trodAll_mk1 (shut_bool (t := 4) (by kernel_rfl) _), (trodAll_cons_mk (Below.trod laidOut (by kernel_rfl) (of_decide_eq_true (by kernel_rfl)) k0 bel lt0) (trodAll_cons_mk (Below.trod laidOut (by kernel_rfl) (of_decide_eq_true (by kernel_rfl)) k1 bel lt1) trodAll_mk0)), rfl, bel.frame _, fun h => by cases h⟩
theorem over : Rows.tickBackRow.holds Try.pinned (OpenSpec.ofChange Rows.tickBackSpec) :=
  OpenClaim.holds_of_wide 6 Try.f6 rfl rfl rfl rfl rfl rfl rfl ⟨rfl, rfl, rfl, rfl, rfl⟩ rfl rfl rfl rfl rfl (by kernel_rfl) Try.func6 (by kernel_rfl)
    (of_decide_eq_true (by kernel_rfl)) (by unfold Func.isWrapper; first | (rw [if_pos (by decide +kernel)]; kernel_rfl) | (rw [if_neg (by decide +kernel)]; exact ⟨rfl, rfl⟩))
    (fun os started H enc _ => lifted os started H enc)
theorem proved : Rows.TickBackSaid := over
end Go.Proofs.Ytfkknipkfcmiaaa.RowTickBack
namespace Go.Proofs.Ytfkknipkfcmiaaa
/-- The row, under a short name, for the claim. -/
theorem tickBack_holds : Rows.TickBackSaid := RowTickBack.proved
#print axioms tickBack_holds
end Go.Proofs.Ytfkknipkfcmiaaa
