/- RetryTells as numbers: whatever the tries, the state and what happens, the printed law answers true. Conditions: none. -/
import Derived.Test.YtdefifgllimedaaCoreRetryTells
namespace Go.Proofs.Ytdefifgllimedaa.Pure
open Go.RowKit Go.Proofs.Ytdefifgllimedaa.PRetryTells Go.Proofs.YtdefifgllimedaaW.PrintWords Go.Proofs.YtdefifgllimedaaW.PrintLast Go.Proofs.Ytdefifgllimedaa.CoreRetryTells
theorem rleft_all : ∀ n : Fin 10, ∀ s : Fin 6, ∀ u : Fin 11, G n.val s.val u.val → remontoirref11_Left.f 250 n.val s.val u.val = some (L n.val s.val u.val) := by decide +kernel
theorem rleft (n s u : Int) (k : Nat) : remontoirref11_Left.f (k + 250) n s u = some (L n s u) := by
  by_cases h : G n s u
  · have hh := h
    unfold G at hh
    have := rleft_all ⟨n.toNat, by omega⟩ ⟨s.toNat, by omega⟩ ⟨u.toNat, by omega⟩
    simp only [show ((n.toNat : Nat) : Int) = n by omega, show ((s.toNat : Nat) : Int) = s by omega, show ((u.toNat : Nat) : Int) = u by omega] at this
    exact at_rounds (remontoirref11_Left.mono n s u) (by omega) (this h)
  · rw [show k + 250 = (k + 249) + 1 by omega, remontoirref11_Left.f, show k + 249 = (k + 247) + 2 by omega, rgood, decide_eq_false h]
    simp only [Option.bind_some, Bool.false_eq_true, if_false]
    unfold L
    rw [if_neg h]
theorem tells_from (n s u : Int) (xs : List Int) (hx : xs.length ≤ 5) : ∀ (d : Nat) (i : Int), 0 ≤ i → (xs.length : Int) - i = d → ∀ k, remontoirlaw11_RetryTells.l0 (k + d + 260) n xs xs.length i s u = some true := by
  intro d
  induction d with
  | zero =>
    intro i h0 hd k
    rw [remontoirlaw11_RetryTells.l0, if_neg (by omega)]
    have e1 : k + 0 + 259 = (k + 258) + 1 := by omega
    have e2 : k + 0 + 259 = (k + 257) + 2 := by omega
    have e3 : k + 0 + 259 = (k + 9) + 250 := by omega
    have e4 : k + 0 + 259 = (k + 239) + 20 := by omega
    have g1 := good (k + 258) n s u
    have g2 := rgood (k + 257) n s u
    have g3 := left (k + 258) n s u
    have g4 := rleft n s u (k + 9)
    have g5 := wakes (k + 239)
    rw [← e1] at g1 g3
    rw [← e2] at g2
    rw [← e3] at g4
    rw [← e4] at g5
    rw [g1, g2, g3, g4, g5]
    simp
  | succ d ih =>
    intro i h0 hd k
    rw [show k + (d + 1) + 260 = (k + d + 260) + 1 by omega, remontoirlaw11_RetryTells.l0, if_pos (by omega), if_pos h0, if_pos (by omega)]
    have g1 := CoreRetryTells.step (k + d + 259) n s u (rd xs i)
    have g2 := rstep (k + d + 256) n s u (rd xs i)
    rw [show k + d + 259 + 1 = k + d + 260 by omega] at g1
    rw [show k + d + 256 + 4 = k + d + 260 by omega] at g2
    rw [g1, g2]
    simp only [Option.bind_some, beq_self_eq_true, Bool.not_true, Bool.or_self, Bool.false_eq_true, if_false]
    rw [show wrap64 (i + 1) = i + 1 by unfold wrap64; omega]
    exact ih (i + 1) (by omega) (by omega) k
theorem RetryTells (n s u x : Int) : ∃ k, remontoirlaw11_RetryTells.f k n s u x = some true :=
  ⟨0 + 5 + 260, by
    unfold remontoirlaw11_RetryTells.f
    simp only [Option.bind_some]
    exact tells_from n s u [x, 1, 2, 3, 4] (by simp) 5 0 (by omega) (by simp) 0⟩
end Go.Proofs.Ytdefifgllimedaa.Pure
namespace Go.Proofs.Ytdefifgllimedaa.CallRetryTells
open Go.RowKit Go.Proofs.Ytdefifgllimedaa.PRetryTells
set_option linter.unusedVariables false
theorem calls (W : World) (a0 : Int) (w0 : (Lit.int .i64 a0).wf = true) (a1_0 : Int) (w1_0 : (Lit.int .i64 a1_0).wf = true) (a1_1 : Int) (w1_1 : (Lit.int .i64 a1_1).wf = true) (a2 : Int) (w2 : (Lit.int .i64 a2).wf = true) :
    Calls Try.prog 3 #[.int .i64 a0, .agg #[.int .i64 a1_0, .int .i64 a1_1], .int .i64 a2] W fun e w' => e = .returned (.bool true) ∧ Below W.heap.size W w' := by
  obtain ⟨k, hk⟩ := Pure.RetryTells a0 a1_0 a1_1 a2
  exact remontoirlaw11_RetryTells.calls k a0 a1_0 a1_1 a2 true W hk
end Go.Proofs.Ytdefifgllimedaa.CallRetryTells
