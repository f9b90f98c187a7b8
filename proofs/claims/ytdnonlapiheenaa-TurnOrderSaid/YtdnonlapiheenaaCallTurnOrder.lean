/- TurnOrder: of jobs of unlike numbers just one of two is ahead, and who is ahead of one that is ahead is ahead; then as a call. Conditions: none. -/
import Derived.Test.YtdnonlapiheenaaCoreOrd
import Derived.Test.YtdnonlapiheenaaPOrdx3
namespace Go.Proofs.Ytdnonlapiheenaa.CallTurnOrder
open Go.RowKit Go.Proofs.Ytdnonlapiheenaa.POrd Go.Proofs.YtdnonlapiheenaaW.PrintWords Go.Proofs.YtdnonlapiheenaaW.PrintLast Go.Proofs.Ytdnonlapiheenaa.CoreOrd
theorem ordered (n a b c d e f : Int) : remontoirlaw08_TurnOrder.f 40 n a b c d e f = some true := by
  unfold remontoirlaw08_TurnOrder.f remontoirlaw08_job.f
  simp only [Option.bind_some, less']
  generalize wrap64 (1 + Int.tmod (wrap64 n) 1000) = A
  generalize Int.tmod (wrap64 a) 8 = a
  generalize Int.tmod (wrap64 c) 8 = c
  generalize Int.tmod (wrap64 e) 8 = e
  generalize wrap64 b = b
  generalize wrap64 d = d
  generalize wrap64 f = f
  have hne : (decide (Ls A ⟨1, a, b⟩ ⟨2, c, d⟩) == decide (Ls A ⟨2, c, d⟩ ⟨1, a, b⟩)) = false := by
    rw [beq_eq_false_iff_ne, ne_eq, decide_eq_decide]
    unfold Ls
    show ¬ ((T A a b < T A c d ∨ T A a b = T A c d ∧ (1 : Int) < 2) ↔ (T A c d < T A a b ∨ T A c d = T A a b ∧ (2 : Int) < 1))
    omega
  rw [hne, if_neg (by decide), decide_eq_false (Ls.irrefl A _), show (40 : Nat) = 39 + 1 by omega, remontoirlaw08_TurnOrder.j0, if_neg (by decide), less', less', less', show (39 : Nat) = 19 + 20 by omega, wakes]
  simp only [Option.bind_some, decide_eq_true_eq]
  by_cases h1 : Ls A ⟨1, a, b⟩ ⟨2, c, d⟩
  · rw [if_pos h1]
    by_cases h2 : Ls A ⟨2, c, d⟩ ⟨3, e, f⟩
    · rw [if_pos h2, if_pos (h1.trans h2)]
    · rw [if_neg h2]
  · rw [if_neg h1]
set_option linter.unusedVariables false
theorem calls (W : World) (a0 : Int) (w0 : (Lit.int .u16 a0).wf = true) (a1_0 : Int) (w1_0 : (Lit.int .u16 a1_0).wf = true) (a1_1 : Int) (w1_1 : (Lit.int .u16 a1_1).wf = true) (a1_2 : Int) (w1_2 : (Lit.int .u16 a1_2).wf = true) (a1_3 : Int) (w1_3 : (Lit.int .u16 a1_3).wf = true) (a1_4 : Int) (w1_4 : (Lit.int .u16 a1_4).wf = true) (a1_5 : Int) (w1_5 : (Lit.int .u16 a1_5).wf = true) :
    Calls Try.prog 3 #[.int .u16 a0, .agg #[.int .u16 a1_0, .int .u16 a1_1, .int .u16 a1_2, .int .u16 a1_3, .int .u16 a1_4, .int .u16 a1_5]] W fun e w' => e = .returned (.bool true) ∧ Below W.heap.size W w' :=
  remontoirlaw08_TurnOrder.calls 40 a0 a1_0 a1_1 a1_2 a1_3 a1_4 a1_5 true W (ordered a0 a1_0 a1_1 a1_2 a1_3 a1_4 a1_5)
end Go.Proofs.Ytdnonlapiheenaa.CallTurnOrder
