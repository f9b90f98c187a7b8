/- MaskOne: a slot more, a slot less: that slot alone is touched; then as a call. Conditions: the library's table as its initialiser lays it. -/
import Derived.Test.YtholnjcfhjjphaaDoorCore
import Derived.OpenShut
namespace Go.Proofs.YtholnjcfhjjphaaDoor.CallMaskOne
open Go.RowKit Go.Proofs.YtholnjcfhjjphaaDoor.PAll Go.Proofs.YtholnjcfhjjphaaDoor.Tz Go.Proofs.YtholnjcfhjjphaaDoorW.PrintWords Go.Proofs.YtholnjcfhjjphaaDoorW.PrintLast Go.Proofs.YtholnjcfhjjphaaDoorW.PrintMore Go.Proofs.YtholnjcfhjjphaaDoor.Core
theorem others (m i : Int) (hm : U m) (hi : 0 ≤ i ∧ i < 64) : ∀ (d : Nat) (j : Int), 0 ≤ j → 64 - j = d → ∀ k, remontoirlaw04_MaskOne.l0 (k + d + 30) m i (wi m i) (wo m i) j = some true := by
  have ua := U_with hm i
  have ub := U_without hm i
  intro d
  induction d with
  | zero =>
    intro j h0 hd k
    have e1 : wi (wo m i) i = wi m i := ext (U_with ub i) ua (fun x h1 h2 => by
      rw [hs_with, hs_with, hs_without]
      by_cases e : x = i
      · subst e; rw [decide_eq_true rfl, decide_eq_true hi]; simp
      · rw [decide_eq_false e]; simp)
    have e2 : wo (wi m i) i = wo m i := ext (U_without ua i) ub (fun x h1 h2 => by
      rw [hs_without, hs_without, hs_with]
      by_cases e : x = i
      · subst e; simp
      · rw [decide_eq_false e]; simp)
    have e3 : wi (wi m i) i = wi m i := ext (U_with ua i) ua (fun x h1 h2 => by rw [hs_with, hs_with, Bool.or_assoc, Bool.or_self])
    have e4 : wo (wo m i) i = wo m i := ext (U_without ub i) ub (fun x h1 h2 => by rw [hs_without, hs_without, Bool.and_assoc, Bool.and_self])
    have e5 : hs (wi m i) i = true := by rw [hs_with, decide_eq_true rfl, decide_eq_true hi]; simp
    have e6 : hs (wo m i) i = false := by rw [hs_without, decide_eq_true rfl]; simp
    rw [show k + 0 + 30 = (k + 9 + 20) + 1 by omega, remontoirlaw04_MaskOne.l0, if_neg (by omega), has ua, e5, Option.bind_some, if_pos rfl, has ub, e6, Option.bind_some, if_neg (by decide), with_ ub, e1, Option.bind_some, if_pos rfl, without ua, e2, Option.bind_some, if_pos rfl, with_ ua, e3, Option.bind_some, if_pos rfl, without ub, e4, Option.bind_some, if_pos rfl, wakes]
    rfl
  | succ d ih =>
    intro j h0 hd k
    have w : wrap64 (j + 1) = j + 1 := by unfold wrap64; omega
    rw [show k + (d + 1) + 30 = (k + d + 30) + 1 by omega, remontoirlaw04_MaskOne.l0, if_pos (by omega), w]
    by_cases e : j = i
    · rw [if_pos e]; exact ih (j + 1) (by omega) (by omega) k
    · rw [if_neg e, has ua, has hm, has ub]
      simp only [Option.bind_some]
      rw [if_neg (by rw [hs_with, decide_eq_false e]; simp), if_neg (by rw [hs_without, decide_eq_false e]; simp)]
      exact ih (j + 1) (by omega) (by omega) k
theorem told (m i : Int) (hm : U m) : ∃ k, remontoirlaw04_MaskOne.f k m i = some true := by
  by_cases hi : 0 ≤ i ∧ i < 64
  · refine ⟨(0 + 64 + 30) + 1, ?_⟩
    unfold remontoirlaw04_MaskOne.f
    rw [with_ hm, without hm, Option.bind_some, Option.bind_some, if_neg (by omega), decide_eq_false (by omega), remontoirlaw04_MaskOne.j0, if_neg (by decide)]
    exact others m i hm hi 64 0 (by omega) (by omega) 0
  · have e1 : wi m i = m := ext (U_with hm i) hm (fun x _ _ => by rw [hs_with, decide_eq_false hi]; simp)
    have e2 : wo m i = m := ext (U_without hm i) hm (fun x h1 h2 => by
      rw [hs_without, decide_eq_false (fun e => hi (by omega))]; simp)
    have key : ∀ b, b = true → remontoirlaw04_MaskOne.j0 (20 + 1) m i m m b = some true := by
      rintro b rfl
      rw [remontoirlaw04_MaskOne.j0, if_pos rfl, if_pos rfl, if_pos rfl, has hm, hs_out hi, Option.bind_some, if_neg (by decide), wakes 0]
      rfl
    refine ⟨20 + 1, ?_⟩
    unfold remontoirlaw04_MaskOne.f
    rw [with_ hm, without hm, Option.bind_some, Option.bind_some, e1, e2]
    by_cases h : i < 0
    · rw [if_pos h]; exact key true rfl
    · rw [if_neg h]; exact key _ (decide_eq_true (by omega))
set_option linter.unusedVariables false
theorem calls (W : World) (hT : TabOk W) (a0 : Int) (w0 : (Lit.int .u64 a0).wf = true) (a1 : Int) (w1 : (Lit.int .i64 a1).wf = true) :
    Calls Tryd.prog 4 #[.int .u64 a0, .int .i64 a1] W fun e w' => e = .returned (.bool true) ∧ Below W.heap.size W w' := by
  have hb := Go.bounds_u64 w0
  obtain ⟨k, hk⟩ := told a0 a1 (by unfold U; omega)
  exact remontoirlaw04_MaskOne.calls k a0 a1 true W hk hT
end Go.Proofs.YtholnjcfhjjphaaDoor.CallMaskOne
