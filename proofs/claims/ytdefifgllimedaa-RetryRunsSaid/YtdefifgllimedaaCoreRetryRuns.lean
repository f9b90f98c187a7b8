/- What the functions of layer 11 come to, over the printed functions of RetryRuns: Good, Step, Left as plain functions of numbers. Conditions: none. -/
import Derived.Test.YtdefifgllimedaaPRetryRunsx7
namespace Go.Proofs.Ytdefifgllimedaa.CoreRetryRuns
open Go.RowKit Go.Proofs.Ytdefifgllimedaa.PRetryRuns Go.Proofs.YtdefifgllimedaaW.PrintWords Go.Proofs.YtdefifgllimedaaW.PrintLast
/-! ### The plain law: what Good, Step, Left come to -/
def G (n s u : Int) : Prop := 0 ≤ n ∧ n ≤ 9 ∧ (s = 1 ∧ 0 ≤ u ∧ u ≤ n ∨ (s = 2 ∨ s = 4) ∧ 1 ≤ u ∧ u ≤ n + 1 ∨ s = 3 ∧ 1 ≤ u ∧ u ≤ n ∨ s = 5 ∧ u = n + 1)
instance (n s u : Int) : Decidable (G n s u) := by unfold G; infer_instance
theorem w64 {n : Int} (h : 0 ≤ n) (h2 : n ≤ 1000) : wrap64 n = n := by unfold wrap64; omega
theorem isIn (a b c : Int) : retry_in.f a b c = some (decide (b ≤ a ∧ a ≤ c)) := by
  unfold retry_in.f
  by_cases h : a ≥ b
  · rw [if_pos h]; congr 1; rw [decide_eq_decide]; omega
  · rw [if_neg h]; congr 1; symm; rw [decide_eq_false_iff_not]; omega
theorem good (k : Nat) (n s u : Int) : retry_Good.f (k + 1) n s u = some (decide (G n s u)) := by
  unfold retry_Good.f retry_Good.j0
  simp only [isIn, Option.bind_some, decide_eq_true_eq, beq_iff_eq]
  by_cases h : 0 ≤ n ∧ n ≤ 9
  · rw [if_pos h, w64 (by omega) (by omega)]
    repeat' split
    all_goals (congr 1; rw [Bool.eq_iff_iff]; simp only [decide_eq_true_eq, beq_iff_eq, Bool.false_eq_true]; unfold G; first | omega | (constructor <;> intro hh <;> first | exact hh.elim | omega))
  · rw [if_neg h]; congr 1; symm; rw [decide_eq_false_iff_not]; unfold G; omega
def S (n s u x : Int) : Int × Int × Bool := if G n s u then (if x = 1 ∧ s = 1 then (2, u + 1, true) else if x = 4 ∧ s = 3 then (1, u, true) else if x = 3 ∧ s = 2 then (if n < u then (5, u, true) else (3, u, true)) else if x = 2 ∧ s = 2 then (4, u, true) else (0, 0, false)) else (0, 0, false)
theorem step (k : Nat) (n s u x : Int) : retry_Step.f (k + 1) n s u x = some (S n s u x) := by
  unfold retry_Step.f retry_Step.j0 S
  simp only [good, Option.bind_some, decide_eq_true_eq]
  by_cases h : G n s u
  · have hu : wrap64 (u + 1) = u + 1 := by unfold G at h; apply w64 <;> omega
    have hs : s ≠ 0 := by unfold G at h; omega
    simp only [if_pos h, hu]
    repeat' split
    all_goals (first | rfl | omega)
  · rw [if_neg h, if_neg h]
def L (n s u : Int) : Int := if G n s u then (if s = 1 then 3 * (n - u) + 2 else if s = 2 then 3 * (n + 1 - u) + 1 else if s = 3 then 3 * (n - u) + 3 else 0) else 0
theorem left (k : Nat) (n s u : Int) : retry_Left.f (k + 1) n s u = some (L n s u) := by
  unfold retry_Left.f L
  simp only [good, Option.bind_some, decide_eq_true_eq]
  by_cases h : G n s u
  · rw [if_pos h, if_pos h]
    unfold G at h
    repeat' split
    all_goals (first | rfl | (congr 1; unfold wrap64; omega))
  · rw [if_neg h, if_neg h]
theorem S_good (n s u x : Int) (h : (S n s u x).2.2 = true) : G n (S n s u x).1 (S n s u x).2.1 := by
  revert h
  unfold S
  by_cases g : G n s u
  · rw [if_pos g]
    unfold G at g
    repeat' split
    all_goals (intro h; first | (unfold G; dsimp only; omega) | (exact absurd h (by decide)))
  · rw [if_neg g]; intro h; cases h
theorem S_no (n s u x : Int) (h : (S n s u x).2.2 = false) : S n s u x = (0, 0, false) := by
  revert h
  unfold S
  repeat' split
  all_goals (intro h; first | rfl | cases h)
theorem wakes (k : Nat) : remontoirlaw11_wakes.f (k + 20) = some true := by
  have h : remontoirlaw11_wakes.f 20 = some true := by decide +kernel
  exact at_rounds remontoirlaw11_wakes.mono (by omega) h
/-! ### The reference -/
theorem rgood (k : Nat) (n s u : Int) : remontoirref11_Good.f (k + 2) n s u = some (decide (G n s u)) := by
  unfold remontoirref11_Good.f
  have e : remontoirref11_Good.j0 (k + 2) n (decide (n < 0) || decide (n > 9)) s u = some (decide (G n s u)) := by
    rw [remontoirref11_Good.j0]
    by_cases h : 0 ≤ n ∧ n ≤ 9
    · rw [if_neg (by simp; omega), remontoirref11_Good.j1, remontoirref11_Good.j1, w64 (by omega) (by omega)]
      simp only [beq_iff_eq]
      repeat' split
      all_goals (congr 1; rw [Bool.eq_iff_iff]; simp only [decide_eq_true_eq, beq_iff_eq, Bool.false_eq_true]; unfold G; first | omega | (constructor <;> intro hh <;> first | exact hh.elim | omega))
    · rw [if_pos (by simp; omega)]; congr 1; symm; rw [decide_eq_false_iff_not]; unfold G; omega
  by_cases h : n < 0
  · rw [if_pos h, ← e, decide_eq_true h]; rfl
  · rw [if_neg h, ← e, decide_eq_false h]; rfl
theorem rstep (k : Nat) (n s u x : Int) : remontoirref11_Step.f (k + 4) n s u x = some (S n s u x) := by
  unfold remontoirref11_Step.f S
  rw [rgood]
  simp only [Option.bind_some, decide_eq_true_eq]
  by_cases h : G n s u
  · have hu : wrap64 (u + 1) = u + 1 := by unfold G at h; apply w64 <;> omega
    have hs : s ≠ 0 := by unfold G at h; omega
    rw [if_pos h, if_pos h]
    simp only [remontoirref11_Step.j0, remontoirref11_Step.j1, remontoirref11_Step.j2, remontoirref11_Step.j3, hu, beq_iff_eq, decide_eq_true_eq, Bool.false_eq_true, if_false]
    by_cases x1 : x = 1
    · subst x1; by_cases s1 : s = 1 <;> simp [s1]
    by_cases x2 : x = 2
    · subst x2; by_cases s1 : s = 2 <;> simp [s1]
    by_cases x3 : x = 3
    · subst x3
      by_cases s1 : s = 2
      · by_cases un : u ≤ n
        · simp [s1, un, show ¬ n < u by omega]
        · simp [s1, un, show n < u by omega]
      · simp [s1]
    by_cases x4 : x = 4
    · subst x4; by_cases s1 : s = 3 <;> simp [s1]
    simp [x1, x2, x3, x4]
  · rw [if_neg h, if_neg h]
end Go.Proofs.Ytdefifgllimedaa.CoreRetryRuns
