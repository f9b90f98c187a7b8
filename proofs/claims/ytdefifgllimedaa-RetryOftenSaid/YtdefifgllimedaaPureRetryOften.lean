/- RetryOften as numbers and a list: whatever happens, one thing after the other, the printed law answers true. Conditions: the given bounds alone. -/
import Derived.Test.YtdefifgllimedaaCoreRetryOften
import Derived.OpenShut
namespace Go.Proofs.Ytdefifgllimedaa.Pure
open Go.RowKit Go.Proofs.Ytdefifgllimedaa.PRetryOften Go.Proofs.YtdefifgllimedaaW.PrintWords Go.Proofs.YtdefifgllimedaaW.PrintLast Go.Proofs.Ytdefifgllimedaa.CoreRetryOften

theorem S_used {n s u x : Int} (h : (S n s u x).2.2 = true) : (S n s u x).2.1 = (if x = 1 then u + 1 else u) ∧ s ≠ 4 ∧ s ≠ 5 ∧ G n s u := by
  revert h
  unfold S
  by_cases g : G n s u
  · rw [if_pos g]
    repeat' split
    all_goals (intro h; first | (exact absurd h (by decide)) | (exact ⟨by first | rfl | omega | (rw [if_pos (by omega)]) | (rw [if_neg (by omega)]), by omega, by omega, g⟩))
  · rw [if_neg g]; intro h; exact absurd h (by decide)

/-- One thing more, and on. -/
theorem often_from (l : List Int) (n : Int) (hl : l.length ≤ 17592186044416) : ∀ (d : Nat) (i : Int) (s u : Int), 0 ≤ i → (l.length : Int) - i = d → G n s u →
    ∀ k, remontoirlaw11_RetryOften.l0 (k + 5 * d + 30) l n u i s u = some true := by
  intro d
  induction d with
  | zero =>
    intro i s u h0 hd hg k
    rw [remontoirlaw11_RetryOften.l0, if_neg (by omega)]
    rw [remontoirlaw11_RetryOften.j1, if_neg (by decide), show k + 5 * 0 + 28 = (k + 8) + 20 by omega, wakes]
    rfl
  | succ d ih =>
    intro i s u h0 hd hg k
    have hi : wrap64 (i + 1) = i + 1 := by unfold wrap64; omega
    have hn : 0 ≤ n ∧ n ≤ 9 ∧ 0 ≤ u ∧ u ≤ n + 1 := by unfold G at hg; omega
    have hw : wrap64 (u + 1) = u + 1 := by unfold wrap64; omega
    have hw2 : wrap64 (n + 1) = n + 1 := by unfold wrap64; omega
    have next : ∀ s u, G n s u → remontoirlaw11_RetryOften.l0 (k + 5 * d + 30) l n u (i + 1) s u = some true := fun s u h => ih (i + 1) s u (by omega) (by omega) h k
    have nextm : ∀ s u, G n s u → remontoirlaw11_RetryOften.l0 (k + 5 * d + 31) l n u (i + 1) s u = some true := fun s u h => at_rounds (fun k => (remontoirlaw11_RetryOften.mono_l k).1 l n u (i + 1) s u) (by omega) (next s u h)
    have stepped : ∀ x, remontoirlaw11_RetryOften.j3 (k + 5 * d + 32) l n u i x s u = some true := by
      intro x
      rw [remontoirlaw11_RetryOften.j3, show k + 5 * d + 31 = (k + 5 * d + 30) + 1 by omega, CoreRetryOften.step]
      simp only [Option.bind_some]
      by_cases hs : (S n s u x).2.2 = true
      · rw [if_pos hs]
        obtain ⟨hu, h4, h5, _⟩ := S_used hs
        have hg' := S_good n s u x hs
        rw [if_neg h4, if_neg h5, good, decide_eq_true hg']
        simp only [Option.bind_some, Bool.not_true]
        rw [remontoirlaw11_RetryOften.j4, if_neg (by decide), hw, hw2, hi]
        have hb : (S n s u x).2.1 ≤ n + 1 ∧ ((S n s u x).1 = 5 → (S n s u x).2.1 = n + 1) := by unfold G at hg'; omega
        by_cases hx : x = 1
        · rw [if_pos hx] at hu
          rw [if_pos hx, hu, if_pos rfl, if_neg (by omega)]
          rw [hu] at hg' hb
          by_cases h5' : (S n s u x).1 = 5
          · rw [if_pos h5', if_pos (hb.2 h5')]; exact next _ _ hg'
          · rw [if_neg h5']; exact next _ _ hg'
        · rw [if_neg hx] at hu
          rw [if_neg hx, hu, if_pos rfl, if_neg (by omega)]
          rw [hu] at hg' hb
          by_cases h5' : (S n s u x).1 = 5
          · rw [if_pos h5', if_pos (hb.2 h5')]; exact next _ _ hg'
          · rw [if_neg h5']; exact next _ _ hg'
      · have hs' : (S n s u x).2.2 = false := by simpa using hs
        rw [if_neg hs, S_no n s u x hs', if_neg (by decide), hi]
        exact nextm _ _ hg
    have modf : ∀ x, ∃ y, remontoirkeep_Mod.f x 4 = some y := by
      intro x
      unfold remontoirkeep_Mod.f
      rw [if_neg (by decide)]
      split <;> exact ⟨_, rfl⟩
    have two : ∀ x b, remontoirlaw11_RetryOften.j2 (k + 5 * d + 33) l n u i x b s u = some true := by
      intro x b
      rw [remontoirlaw11_RetryOften.j2]
      cases b
      · rw [if_neg (by decide)]; exact stepped x
      · rw [if_pos rfl]
        obtain ⟨y, hy⟩ := modf x
        rw [hy]
        simp only [Option.bind_some]
        exact stepped _
    have one : ∀ b, remontoirlaw11_RetryOften.j1 (k + 5 * d + 34) l n u i b s u = some true := by
      intro b
      rw [remontoirlaw11_RetryOften.j1]
      cases b
      · rw [if_neg (by decide), show k + 5 * d + 33 = (k + 5 * d + 13) + 20 by omega, wakes]; rfl
      · rw [if_pos rfl, if_pos h0, if_pos (by omega)]
        split
        · exact two _ _
        · exact two _ _
    rw [show k + 5 * (d + 1) + 30 = (k + 5 * d + 34) + 1 by omega, remontoirlaw11_RetryOften.l0, if_pos (by omega)]
    exact one _

theorem RetryOften : remontoirlaw11_RetryOften.Pure := by
  intro a l ha _ hl _
  have hb := Go.bounds_u8 ha
  refine ⟨0 + 5 * l.length + 30, ?_⟩
  unfold remontoirlaw11_RetryOften.f
  have hm : wrap64 a = a := by unfold wrap64; omega
  have ht : 0 ≤ Int.tmod a 10 ∧ Int.tmod a 10 ≤ 9 := by rw [Int.tmod_eq_emod_of_nonneg (by omega)]; omega
  rw [hm]
  exact often_from l _ (by omega) l.length 0 1 0 (by omega) (by omega) (by unfold G; omega) 0
end Go.Proofs.Ytdefifgllimedaa.Pure
