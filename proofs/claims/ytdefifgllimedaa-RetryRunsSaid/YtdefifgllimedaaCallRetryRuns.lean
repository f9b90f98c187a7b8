/- RetryRuns: the two runs go in step: as numbers and a list; then as a call. Conditions: the bounds that are given. -/
import Derived.Test.YtdefifgllimedaaCoreRetryRuns
import Derived.Test.YtdefifgllimedaaOpenKd
namespace Go.Proofs.Ytdefifgllimedaa.Pure
open Go.RowKit Go.Proofs.Ytdefifgllimedaa.PRetryRuns Go.Proofs.YtdefifgllimedaaW.PrintWords Go.Proofs.YtdefifgllimedaaW.PrintLast Go.Proofs.Ytdefifgllimedaa.CoreRetryRuns
/-- Some steps, one behind the other, and how many were left out. -/
def go (n : Int) : List Int → Int → Int → Int → Int × Int × Int
  | [], s, u, o => (s, u, o)
  | x :: r, s, u, o => if (S n s u x).2.2 = true then go n r (S n s u x).1 (S n s u x).2.1 o else go n r s u (o + 1)
theorem drop_rd {xs : List Int} {i : Int} (h0 : 0 ≤ i) (h1 : i < xs.length) : xs.drop i.toNat = rd xs i :: xs.drop (i + 1).toNat := by
  rw [List.drop_eq_getElem_cons (by omega), show (i + 1).toNat = i.toNat + 1 by omega]
  unfold rd
  rw [List.getD_eq_getElem?_getD, List.getElem?_eq_getElem (by omega)]
  rfl
theorem run_from (n : Int) (xs : List Int) (hx : xs.length ≤ 1000) : ∀ (d : Nat) (i o s u : Int), 0 ≤ i → (xs.length : Int) - i = d → 0 ≤ o → o ≤ i → ∀ k,
    retry_Run.l0 (k + d + 2) n o xs xs.length i s u = some (go n (xs.drop i.toNat) s u o) := by
  intro d
  induction d with
  | zero =>
    intro i o s u h0 hd ho hoi k
    rw [retry_Run.l0, if_neg (by omega), List.drop_of_length_le (by omega)]
    rfl
  | succ d ih =>
    intro i o s u h0 hd ho hoi k
    have g1 := CoreRetryRuns.step (k + d + 1) n s u (rd xs i)
    rw [show k + (d + 1) + 2 = (k + d + 1 + 1) + 1 by omega, retry_Run.l0, if_pos (by omega), if_pos h0, if_pos (by omega), g1, drop_rd h0 (by omega)]
    simp only [Option.bind_some]
    rw [show wrap64 (i + 1) = i + 1 by unfold wrap64; omega, show wrap64 (o + 1) = o + 1 by unfold wrap64; omega, go]
    by_cases h : (S n s u (rd xs i)).2.2 = true
    · rw [if_pos h, if_pos h]; exact ih (i + 1) o _ _ (by omega) (by omega) (by omega) (by omega) k
    · rw [if_neg h, if_neg h]; exact ih (i + 1) (o + 1) _ _ (by omega) (by omega) (by omega) (by omega) k
theorem rrun_from (n : Int) (xs : List Int) (hx : xs.length ≤ 1000) : ∀ (d : Nat) (i o s u : Int), 0 ≤ i → (xs.length : Int) - i = d → 0 ≤ o → o ≤ i → ∀ k,
    remontoirref11_Run.l0 (k + d + 5) n xs i s u o = some (go n (xs.drop i.toNat) s u o) := by
  intro d
  induction d with
  | zero =>
    intro i o s u h0 hd ho hoi k
    rw [remontoirref11_Run.l0, if_neg (by omega), List.drop_of_length_le (by omega)]
    rfl
  | succ d ih =>
    intro i o s u h0 hd ho hoi k
    have g1 := rstep (k + d + 1) n s u (rd xs i)
    rw [show k + (d + 1) + 5 = (k + d + 1 + 4) + 1 by omega, remontoirref11_Run.l0, if_pos (by omega), if_pos h0, g1, drop_rd h0 (by omega)]
    simp only [Option.bind_some]
    rw [show wrap64 (i + 1) = i + 1 by unfold wrap64; omega, show wrap64 (o + 1) = o + 1 by unfold wrap64; omega, go]
    by_cases h : (S n s u (rd xs i)).2.2 = true
    · rw [if_pos h, if_pos h]; exact ih (i + 1) o _ _ (by omega) (by omega) (by omega) (by omega) k
    · rw [if_neg h, if_neg h]; exact ih (i + 1) (o + 1) _ _ (by omega) (by omega) (by omega) (by omega) k
theorem RetryRuns (n s u : Int) (xs : List Int) : ∃ k, remontoirlaw11_RetryRuns.f k n s u xs = some true := by
  refine ⟨xs.length + 50, ?_⟩
  unfold remontoirlaw11_RetryRuns.f
  have g5 := wakes (xs.length + 30)
  rw [show xs.length + 30 + 20 = xs.length + 50 by omega] at g5
  by_cases hl : (xs.length : Int) > 100
  · rw [if_pos hl, g5]; rfl
  rw [if_neg hl]
  have e1 : ∃ r, retry_Run.f (xs.length + 50) n s u xs = some r ∧ remontoirref11_Run.f (xs.length + 50) n s u xs = some r := by
    unfold retry_Run.f remontoirref11_Run.f
    have g1 := good (xs.length + 49) n s u
    have g2 := rgood (xs.length + 48) n s u
    rw [g1, g2]
    simp only [Option.bind_some, decide_eq_true_eq]
    by_cases h : G n s u
    · rw [if_pos h, if_pos h]
      refine ⟨go n (xs.drop (0 : Int).toNat) s u 0, ?_, ?_⟩
      · have := run_from n xs (by omega) xs.length 0 0 s u (by omega) (by omega) (by omega) (by omega) 48
        rw [show 48 + xs.length + 2 = xs.length + 50 by omega] at this
        exact this
      · have := rrun_from n xs (by omega) xs.length 0 0 s u (by omega) (by omega) (by omega) (by omega) 45
        rw [show 45 + xs.length + 5 = xs.length + 50 by omega] at this
        exact this
    · rw [if_neg h, if_neg h]
      exact ⟨_, rfl, rfl⟩
  obtain ⟨r, h1, h2⟩ := e1
  rw [h1, h2, g5]
  simp
end Go.Proofs.Ytdefifgllimedaa.Pure
namespace Go.Proofs.Ytdefifgllimedaa.CallRetryRuns
open Go.RowKit Go.Proofs.Ytdefifgllimedaa.PRetryRuns Go.Proofs.Ytdefifgllimedaa.Open
set_option linter.unusedVariables false
theorem calls (W : World) (a0 : Int) (w0 : (Lit.int .i64 a0).wf = true) (a1_0 : Int) (w1_0 : (Lit.int .i64 a1_0).wf = true) (a1_1 : Int) (w1_1 : (Lit.int .i64 a1_1).wf = true) (a2 : Option Addr) (c2 : Nat) (l2 : List (List Int)) (r2 : RowsOf W [.i64] a2 l2) (x2 : l2.length ≤ c2) (m2 : c2 ≤ maxLen) (y2 : l2.length * 8 ≤ 140737488351232) :
    Calls Try.prog 4 #[.int .i64 a0, .agg #[.int .i64 a1_0, .int .i64 a1_1], .slice a2 l2.length c2] W fun e w' => e = .returned (.bool true) ∧ Below W.heap.size W w' := by
  obtain ⟨k, hk⟩ := Pure.RetryRuns a0 a1_0 a1_1 (firsts l2)
  have h := remontoirlaw11_RetryRuns.calls k a0 a1_0 a1_1 a2 c2 (firsts l2) true W (kd_ints r2 (by omega)) (by rw [firsts_length]; exact x2) hk
  rw [firsts_length] at h
  exact h
end Go.Proofs.Ytdefifgllimedaa.CallRetryRuns
