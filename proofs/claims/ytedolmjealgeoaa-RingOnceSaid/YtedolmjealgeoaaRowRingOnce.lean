/- The row of RingOnce: each argument is laid open to its numbers, the call is taken by its contract, the arguments read as before. Conditions: the contract's own. -/
import Derived.Test.YtedolmjealgeoaaRows
import Derived.Test.YtedolmjealgeoaaOpen
import Derived.Test.YtedolmjealgeoaaCallRingOnce
import Derived.WalkKit
import Derived.ProofKit
import Derived.OpenShut
import Derived.ShutString
import Derived.ChangeOld
import Derived.Below
import Derived.SizedLaws
namespace Go.Proofs.Ytedolmjealgeoaa.RowRingOnce
open Go.ChangeShapes Go.WideShapes Go.ChangeAt Go.RowKit Go.Proofs.Ytedolmjealgeoaa.Open
set_option linter.unusedVariables false
set_option linter.unusedSimpArgs false
set_option maxRecDepth 100000 in
theorem flat3 : Flat Try.prog 3 [.i64] := flat_int (by kernel_rfl) (by kernel_rfl)
set_option maxRecDepth 100000 in
theorem flat22 : Flat Try.prog 22 [.u64] := flat_int (by kernel_rfl) (by kernel_rfl)
noncomputable def fields24 : Array Field := match Try.prog.underlying 24 with | some (.struct fs) => fs | _ => #[]
theorem under24 : Try.prog.underlying 24 = some (.struct fields24) := by kernel_rfl
set_option maxRecDepth 100000 in
theorem flat24 : Flat Try.prog 24 [.i64, .u64] := flat_struct [[.i64], [.u64]] (fs := (fields24)) under24 (by kernel_rfl) rfl (fun i f ks hf hk => match i, f, ks, hf, hk with
    | 0, _, _, hf, hk => by simp only [List.getElem?_cons_zero, List.getElem?_cons_succ, Option.some.injEq] at hk; subst hk; obtain rfl := Option.some.inj hf; exact ⟨flat3, rfl⟩
    | 1, _, _, hf, hk => by simp only [List.getElem?_cons_zero, List.getElem?_cons_succ, Option.some.injEq] at hk; subst hk; obtain rfl := Option.some.inj hf; exact ⟨flat22, rfl⟩
    | n + 2, _, _, _, hk => by simp at hk)
theorem own : ownKnob Try.prog.godebug = none := by kernel_rfl
theorem laidOut : laidOutB Try.prog = true := by kernel_rfl
set_option maxRecDepth 100000 in
theorem lifted (os : Os) (started : os.Started) (H : Type) (enc : TypeId × Value → H) :
    ReturnsInHanded {} Try.checked os 3 .any (Rows.ringOnceSpec.pre6 enc Try.prog Try.f3 Rows.ringOnceRow.domain false) (Rows.ringOnceSpec.post enc Try.prog Try.f3 false true false false) := by
  refine returnsInHanded_of_change_sized (C := Try.checked) own started (by kernel_rfl) Try.func3
    (ChangeSpec.witness6 (enc := enc) (C := Try.checked) false ⟨#[], #[.agg #[.int .i64 0, .int .u64 0], .int .u8 0, .int .u8 0], []⟩ 8 (by kernel_rfl) (by kernel_rfl) (by kernel_rfl) (by kernel_rfl)) ?_
  intro W base args ds gs before hval0 hW hcnd hsz0 _
  have hsz : (DataW.weightsEach Try.prog (Try.f3.params.toList ++ Rows.ringOnceSpec.plain.varTypes Try.prog) (ds ++ gs)).all (· ≤ reachBytes) = true := hsz0
  have hval : ∀ (j : Nat) t v, Try.f3.params[j]? = some t → args[j]? = some v → Value.okWide Try.prog W .any base t v := hval0
  have hW' := hW
  obtain ⟨p, q, hA0, hV, rfl, hfz, hnd⟩ := hW
  have hA : DataW.TrodAll enc Try.prog W 0 (fun _ => true) true Try.f3.params.toList args.toList ds p := hA0
  rw [Try.params3] at hA hval hsz
  obtain ⟨v0, vs0, d0, ds0, p0, q0, hargs, rfl, rfl, h0, r0⟩ := trodAll_cons hA
  obtain ⟨v1, vs1, d1, ds1, p1, q1, rfl, rfl, rfl, h1, r1⟩ := trodAll_cons r0
  obtain ⟨v2, vs2, d2, ds2, p2, q2, rfl, rfl, rfl, h2, r2⟩ := trodAll_cons r1
  obtain ⟨rfl, rfl, rfl⟩ := trodAll_nil r2
  obtain rfl : args = #[v0, v1, v2] := by cases args; simp_all
  obtain ⟨rfl, rfl⟩ := trodVars_none hV
  have k0 := h0
  have lt0 : ∀ x ∈ p0, x.block < W.heap.size := by obtain ⟨m, hm⟩ := k0; exact DataW.trod_lt m _ _ _ hm
  obtain ⟨n0, f0, e0⟩ := open_flat (t := 24) flat24 (by obtain ⟨cs, hcs, _⟩ := okWide_struct (fs := fields24) (t := 24) (by kernel_rfl) (hval 0 24 v0 rfl rfl); exact ⟨cs, hcs⟩) h0
  obtain ⟨a0_0, n0, rfl, w0_0, f0⟩ := fits_cons f0
  obtain ⟨a0_1, n0, rfl, w0_1, f0⟩ := fits_cons f0
  obtain rfl := fits_nil f0
  replace e0 : v0 = .agg #[.int .i64 a0_0, .int .u64 a0_1] := e0
  subst e0
  have k1 := h1
  have lt1 : ∀ x ∈ p1, x.block < W.heap.size := by obtain ⟨m, hm⟩ := k1; exact DataW.trod_lt m _ _ _ hm
  obtain ⟨a1, rfl, -, -, w1⟩ := open_int (show Try.prog.underlying 5 = some (.int .u8) by kernel_rfl) (hval 1 5 v1 rfl rfl) h1
  have k2 := h2
  have lt2 : ∀ x ∈ p2, x.block < W.heap.size := by obtain ⟨m, hm⟩ := k2; exact DataW.trod_lt m _ _ _ hm
  obtain ⟨a2, rfl, -, -, w2⟩ := open_int (show Try.prog.underlying 5 = some (.int .u8) by kernel_rfl) (hval 2 5 v2 rfl rfl) h2
  clear hA0 hval0 hsz0 hsz
  refine (CallRingOnce.calls W a0_0 w0_0 a0_1 w0_1 a1 w1 a2 w2).mono fun e W' ⟨he, bel⟩ => ?_
  subst he
  exact ⟨_, rfl, _, _, _, [], _, [], hW', trodAll_mk1 (shut_bool (t := 4) (by kernel_rfl) _), (trodAll_cons_mk (Below.trod laidOut (by kernel_rfl) (of_decide_eq_true (by kernel_rfl)) k0 bel lt0) (trodAll_cons_mk (Below.trod laidOut (by kernel_rfl) (of_decide_eq_true (by kernel_rfl)) k1 bel lt1) (trodAll_cons_mk (Below.trod laidOut (by kernel_rfl) (of_decide_eq_true (by kernel_rfl)) k2 bel lt2) trodAll_mk0))), rfl, bel.frame _, fun h => by cases h⟩
theorem over : Rows.ringOnceRow.holds Try.pinned (OpenSpec.ofChange Rows.ringOnceSpec) :=
  OpenClaim.holds_of_wide 3 Try.f3 rfl rfl rfl rfl rfl rfl rfl ⟨rfl, rfl, rfl, rfl, rfl⟩ rfl rfl rfl rfl rfl (by kernel_rfl) Try.func3 (by kernel_rfl)
    (of_decide_eq_true (by kernel_rfl)) (by unfold Func.isWrapper; first | (rw [if_pos (by decide +kernel)]; kernel_rfl) | (rw [if_neg (by decide +kernel)]; exact ⟨rfl, rfl⟩))
    (fun os started H enc _ => lifted os started H enc)
theorem proved : Rows.RingOnceSaid := over
end Go.Proofs.Ytedolmjealgeoaa.RowRingOnce
namespace Go.Proofs.Ytedolmjealgeoaa
/-- The row, under a short name, for the claim. -/
theorem ringOnce_holds : Rows.RingOnceSaid := RowRingOnce.proved
#print axioms ringOnce_holds
end Go.Proofs.Ytedolmjealgeoaa
