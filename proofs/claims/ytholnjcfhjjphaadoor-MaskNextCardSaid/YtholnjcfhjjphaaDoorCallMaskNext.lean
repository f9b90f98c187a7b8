/- MaskNext: what Next tells is in, not below the place, and none is between; then as a call. Conditions: the library's table as its initialiser lays it. -/
import Derived.Test.YtholnjcfhjjphaaDoorCore
import Derived.OpenShut
namespace Go.Proofs.YtholnjcfhjjphaaDoor.CallMaskNext
open Go.RowKit Go.Proofs.YtholnjcfhjjphaaDoor.PAll Go.Proofs.YtholnjcfhjjphaaDoor.Tz Go.Proofs.YtholnjcfhjjphaaDoorW.PrintWords Go.Proofs.YtholnjcfhjjphaaDoorW.PrintLast Go.Proofs.YtholnjcfhjjphaaDoorW.PrintMore Go.Proofs.YtholnjcfhjjphaaDoor.Core
theorem none_between (m stop : Int) (hm : U m) (hs64 : stop ≤ 64) : ∀ (d : Nat) (i : Int), 0 ≤ i → (stop - i).toNat = d → (∀ j, i ≤ j → j < stop → hs m j = false) → ∀ k, remontoirlaw04_MaskNext.l0 (k + d + 30) m stop i = some true := by
  intro d
  induction d with
  | zero =>
    intro i h0 hd hn k
    rw [show k + 0 + 30 = (k + 9 + 20) + 1 by omega, remontoirlaw04_MaskNext.l0, if_neg (by omega), wakes]
    rfl
  | succ d ih =>
    intro i h0 hd hn k
    rw [show k + (d + 1) + 30 = (k + d + 30) + 1 by omega, remontoirlaw04_MaskNext.l0, if_pos (by omega), has hm, hn i (by omega) (by omega), Option.bind_some, if_neg (by decide), show wrap64 (i + 1) = i + 1 by unfold wrap64; omega]
    exact ih (i + 1) (by omega) (by omega) (fun j h1 h2 => hn j (by omega) h2) k
theorem told (m f : Int) (hm : U m) : ∃ k, remontoirlaw04_MaskNext.f k m f = some true := by
  obtain ⟨r, e, hr⟩ := next hm f
  have g0 : 0 ≤ mx f 0 ∧ f ≤ mx f 0 ∧ ∀ j, mx f 0 ≤ j → 0 ≤ j ∧ f ≤ j := by unfold mx; split <;> refine ⟨by omega, by omega, fun j h => by omega⟩
  rcases hr with ⟨h1, h2, h3, h4, h5⟩ | ⟨rfl, h⟩
  · have h64 := hs_in h4
    refine ⟨(0 + (r.1 - mx f 0).toNat + 30) + 1 + 1, ?_⟩
    unfold remontoirlaw04_MaskNext.f
    rw [e, Option.bind_some, if_pos h1, if_neg (by omega), has hm, h4, Option.bind_some, if_pos rfl, remontoirlaw04_MaskNext.j0, if_neg (by decide), if_pos h1, remontoirlaw04_MaskNext.j1]
    exact none_between m r.1 hm (by omega) _ _ g0.1 rfl (fun j h6 h7 => h5 j (by omega) (by have := g0.2.2 j h6; omega) h7) 0
  · refine ⟨(0 + (64 - mx f 0).toNat + 30) + 1 + 1, ?_⟩
    unfold remontoirlaw04_MaskNext.f
    rw [e, Option.bind_some, if_neg (by decide), show (((0, false) : Int × Bool).1 != 0) = false from rfl, remontoirlaw04_MaskNext.j0, if_neg (by decide), if_neg (by decide), remontoirlaw04_MaskNext.j1]
    exact none_between m 64 hm (by omega) _ _ g0.1 rfl (fun j h6 h7 => h j (g0.2.2 j h6).1 (g0.2.2 j h6).2) 0
set_option linter.unusedVariables false
theorem calls (W : World) (hT : TabOk W) (a0 : Int) (w0 : (Lit.int .u64 a0).wf = true) (a1 : Int) (w1 : (Lit.int .i64 a1).wf = true) :
    Calls Tryd.prog 3 #[.int .u64 a0, .int .i64 a1] W fun e w' => e = .returned (.bool true) ∧ Below W.heap.size W w' := by
  have hb := Go.bounds_u64 w0
  obtain ⟨k, hk⟩ := told a0 a1 (by unfold U; omega)
  exact remontoirlaw04_MaskNext.calls k a0 a1 true W hk hT
end Go.Proofs.YtholnjcfhjjphaaDoor.CallMaskNext
