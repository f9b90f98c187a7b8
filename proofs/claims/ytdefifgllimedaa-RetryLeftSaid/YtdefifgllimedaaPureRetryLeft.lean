/- RetryLeft as numbers: whatever the number of tries and the state, the printed law answers true. Conditions: none. -/
import Derived.Test.YtdefifgllimedaaCoreRetryLeft
namespace Go.Proofs.Ytdefifgllimedaa.Pure
open Go.RowKit Go.Proofs.Ytdefifgllimedaa.PRetryLeft Go.Proofs.YtdefifgllimedaaW.PrintWords Go.Proofs.YtdefifgllimedaaW.PrintLast Go.Proofs.Ytdefifgllimedaa.CoreRetryLeft
theorem S_bad {n s u : Int} (h : ¬ G n s u) (x : Int) : S n s u x = (0, 0, false) := by unfold S; rw [if_neg h]
theorem L_bad {n s u : Int} (h : ¬ G n s u) : L n s u = 0 := by unfold L; rw [if_neg h]
theorem all_good : ∀ n : Fin 10, ∀ s : Fin 6, ∀ u : Fin 11, G n.val s.val u.val → remontoirlaw11_RetryLeft.f 60 n.val s.val u.val = some true := by decide +kernel
theorem RetryLeft (n s u : Int) : ∃ k, remontoirlaw11_RetryLeft.f k n s u = some true := by
  by_cases h : G n s u
  · have hh := h
    unfold G at hh
    have := all_good ⟨n.toNat, by omega⟩ ⟨s.toNat, by omega⟩ ⟨u.toNat, by omega⟩
    simp only [show ((n.toNat : Nat) : Int) = n by omega, show ((s.toNat : Nat) : Int) = s by omega, show ((u.toNat : Nat) : Int) = u by omega] at this
    exact ⟨_, this h⟩
  · refine ⟨60, ?_⟩
    unfold remontoirlaw11_RetryLeft.f
    rw [left 59, L_bad h]
    simp only [Option.bind_some]
    have go : ∀ (d : Nat) (k : Nat) (i : Int), 7 - i = d → i ≤ 7 → -1 ≤ i → remontoirlaw11_RetryLeft.l0 (k + d + 30) n 0 0 false i s u = some true := by
      intro d
      induction d with
      | zero =>
        intro k i h1 h2 h3
        rw [remontoirlaw11_RetryLeft.l0]
        rw [if_neg (by omega)]
        rw [if_pos (by simp), if_pos rfl, show k + 0 + 29 = (k + 9) + 20 by omega, wakes]
        rfl
      | succ d ih =>
        intro k i h1 h2 h3
        rw [show k + (d + 1) + 30 = (k + d + 30) + 1 by omega]
        rw [remontoirlaw11_RetryLeft.l0]
        rw [if_pos (by omega), show k + d + 30 = (k + d + 29) + 1 by omega, CoreRetryLeft.step, S_bad h]
        simp only [Option.bind_some, Bool.false_eq_true, if_false]
        rw [show wrap64 (i + 1) = i + 1 by unfold wrap64; omega]
        exact ih k (i + 1) (by omega) (by omega) (by omega)
    exact go 8 22 (-1) (by omega) (by omega) (by omega)
end Go.Proofs.Ytdefifgllimedaa.Pure
