/- TurnOvertakes: jobs of lesser classes, later jobs: as numbers; then as a call. Conditions: none. -/
import Derived.Test.YtdnonlapiheenaaCore
import Derived.Test.YtdnonlapiheenaaPAllx3
import Derived.OpenShut
namespace Go.Proofs.Ytdnonlapiheenaa.CallTurnOvertakes
open Go.RowKit Go.Proofs.Ytdnonlapiheenaa.PAll Go.Proofs.YtdnonlapiheenaaW.PrintWords Go.Proofs.YtdnonlapiheenaaW.PrintLast Go.Proofs.Ytdnonlapiheenaa.Core
theorem lesser (a i c t : Int) (h1 : 1 ≤ a) (h2 : a ≤ 1000) (h : Gd c t) : ∀ (d : Nat) (j : Int), 0 ≤ j → c - j = d → ∀ k, remontoirlaw08_TurnOvertakes.l0 (k + d + 30) a j i c t = some true := by
  intro d
  induction d with
  | zero =>
    intro j h0 hd k
    rw [show k + 0 + 30 = (k + 29) + 1 by omega, remontoirlaw08_TurnOvertakes.l0, if_neg (by omega), show k + 29 = (k + 9) + 20 by omega, wakes]
    rfl
  | succ d ih =>
    intro j h0 hd k
    have g : Gd j t := by unfold Gd at *; omega
    have hl : Ls a ⟨2, j, t⟩ ⟨i, c, t⟩ := by
      unfold Ls
      left
      show T a j t < T a c t
      rw [T_of g h1 h2, T_of h h1 h2]
      have : a * (j + 1) ≤ a * c := Int.mul_le_mul_of_nonneg_left (by omega) (by omega)
      rw [Int.mul_add] at this
      omega
    rw [show k + (d + 1) + 30 = (k + d + 30) + 1 by omega, remontoirlaw08_TurnOvertakes.l0, if_pos (by omega), less', decide_eq_true hl]
    simp only [Option.bind_some, if_true]
    rw [show wrap64 (j + 1) = j + 1 by unfold Gd at h; unfold wrap64; omega]
    exact ih (j + 1) (by omega) (by omega) k
theorem overtakes (n c t later : Int) (hn : 0 ≤ n ∧ n ≤ 65535) (hc : 0 ≤ c ∧ c ≤ 65535) (ht : 0 ≤ t ∧ t ≤ 65535) (hl : 0 ≤ later ∧ later ≤ 65535) : ∃ k, remontoirlaw08_TurnOvertakes.f k n c t later = some true := by
  have w : ∀ x : Int, 0 ≤ x → x ≤ 10000000 → wrap64 x = x := fun x h1 h2 => by unfold wrap64; omega
  have wn : wrap64 n = n := w _ (by omega) (by omega)
  have wc : wrap64 c = c := w _ (by omega) (by omega)
  have wt : wrap64 t = t := w _ (by omega) (by omega)
  have wl : wrap64 later = later := w _ (by omega) (by omega)
  obtain ⟨a, ha, h1, h2⟩ : ∃ a, wrap64 (1 + Int.tmod n 1000) = a ∧ 1 ≤ a ∧ a ≤ 1000 := by
    rw [Int.tmod_eq_emod_of_nonneg (by omega)]
    exact ⟨_, rfl, by rw [w _ (by omega) (by omega)]; omega, by rw [w _ (by omega) (by omega)]; omega⟩
  obtain ⟨q, hq, q0, q7⟩ : ∃ q, Int.tmod c 8 = q ∧ 0 ≤ q ∧ q ≤ 7 := by
    rw [Int.tmod_eq_emod_of_nonneg (by omega)]
    exact ⟨_, rfl, by omega, by omega⟩
  obtain ⟨p, hp, p0, p7⟩ : ∃ p, Int.tmod later 8 = p ∧ 0 ≤ p ∧ p ≤ 7 := by
    rw [Int.tmod_eq_emod_of_nonneg (by omega)]
    exact ⟨_, rfl, by omega, by omega⟩
  obtain ⟨u, hu, u0, u7⟩ : ∃ u, Int.tdiv later 8 = u ∧ 0 ≤ u ∧ u ≤ 10000 := by
    rw [Int.tdiv_eq_ediv_of_nonneg (by omega)]
    exact ⟨_, rfl, by omega, by omega⟩
  have m0 := Int.mul_nonneg (show 0 ≤ a by omega) q0
  have m1 : a * q ≤ 1000 * 7 := Int.mul_le_mul h2 q7 q0 (by omega)
  have m2 := Int.mul_nonneg (show 0 ≤ a by omega) p0
  have m3 : a * p ≤ 1000 * 7 := Int.mul_le_mul h2 p7 p0 (by omega)
  have g : Gd q t := by unfold Gd; omega
  refine ⟨1 + (q.toNat + 30), ?_⟩
  unfold remontoirlaw08_TurnOvertakes.f remontoirlaw08_job.f
  simp only [Option.bind_some, wn, wc, wt, wl, ha, hq, hp, hu]
  rw [w (a * q) m0 (by omega), w (t + a * q) (by omega) (by omega), w (t + a * q + 1) (by omega) (by omega), w u u0 (by omega), w (t + a * q + 1 + u) (by omega) (by omega), w (t + 1) (by omega) (by omega), w (t + 1 + later) (by omega) (by omega), less', less']
  have e1 : Ls a ⟨1, q, t⟩ ⟨2, p, t + a * q + 1 + u⟩ := by
    unfold Ls
    left
    show T a q t < T a p (t + a * q + 1 + u)
    rw [T_of g h1 h2, T_of (by unfold Gd; omega) h1 h2]
    omega
  have e2 : Ls a ⟨1, q, t⟩ ⟨2, q, t + 1 + later⟩ := by
    unfold Ls
    left
    show T a q t < T a q (t + 1 + later)
    rw [T_of g h1 h2, T_of (by unfold Gd; omega) h1 h2]
    omega
  rw [decide_eq_true e1, decide_eq_true e2]
  simp only [Option.bind_some, if_true, Bool.not_true]
  rw [show 1 + (q.toNat + 30) = (0 + q.toNat + 30) + 1 by omega, remontoirlaw08_TurnOvertakes.j0, if_neg (by decide)]
  exact lesser a 1 q t h1 h2 g q.toNat 0 (by omega) (by omega) 0
theorem calls (W : World) (a0 : Int) (w0 : (Lit.int .u16 a0).wf = true) (a1_0 : Int) (w1_0 : (Lit.int .u16 a1_0).wf = true) (a1_1 : Int) (w1_1 : (Lit.int .u16 a1_1).wf = true) (a2 : Int) (w2 : (Lit.int .u16 a2).wf = true) :
    Calls Try.prog 4 #[.int .u16 a0, .agg #[.int .u16 a1_0, .int .u16 a1_1], .int .u16 a2] W fun e w' => e = .returned (.bool true) ∧ Below W.heap.size W w' := by
  obtain ⟨k, hk⟩ := overtakes a0 a1_0 a1_1 a2 (Go.bounds_u16 w0) (Go.bounds_u16 w1_0) (Go.bounds_u16 w1_1) (Go.bounds_u16 w2)
  exact remontoirlaw08_TurnOvertakes.calls k a0 a1_0 a1_1 a2 true W hk
end Go.Proofs.Ytdnonlapiheenaa.CallTurnOvertakes
