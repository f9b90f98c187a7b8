/- TurnTells: the functions and the reference come to the same, jobs by jobs; then as a call. Conditions: the bounds that are given. -/
import Derived.Test.YtdnonlapiheenaaCore
import Derived.Test.YtdnonlapiheenaaPAllx7
import Derived.Test.YtdnonlapiheenaaOpenKd
namespace Go.Proofs.Ytdnonlapiheenaa.CallTurnTells
open Go.RowKit Go.Proofs.Ytdnonlapiheenaa.PAll Go.Proofs.YtdnonlapiheenaaW.PrintWords Go.Proofs.YtdnonlapiheenaaW.PrintLast Go.Proofs.Ytdnonlapiheenaa.Core Go.Proofs.Ytdnonlapiheenaa.Open
theorem cnt_zero {a : Int} {w : S26} {l : List S26} : cnt a w l = 0 ↔ ∀ j, 0 ≤ j → j < (l.length : Int) → ¬ Ls a (rd_T26 l j) w := by
  unfold cnt
  rw [show ((l.countP fun x => decide (Ls a x w)).cast : Int) = 0 ↔ (l.countP fun x => decide (Ls a x w)) = 0 by omega, List.countP_eq_zero]
  constructor
  · intro h j h0 h1
    have hm : rd_T26 l j ∈ l := by
      unfold rd_T26
      rw [List.getD_eq_getElem?_getD, List.getElem?_eq_getElem (show j.toNat < l.length by omega)]
      exact List.getElem_mem _
    simpa using h _ hm
  · intro h x hx
    obtain ⟨j, hj, rfl⟩ := List.getElem_of_mem hx
    have := h j (by omega) (by omega)
    unfold rd_T26 at this
    rw [List.getD_eq_getElem?_getD, Int.toNat_natCast, List.getElem?_eq_getElem hj] at this
    simpa using this
/-- The reference's first one, from a place on, if nobody ahead of that place is it. -/
theorem rfirst_from (a : Int) (l : List S26) (hl : l.length ≤ 17592186044416) (r : Int) (hr : IsFirst a l l.length r) : ∀ (d : Nat) (i : Int), 0 ≤ i → r - i = d → ∀ k,
    remontoirref08_First.l0 (k + d + l.length + 2) a l i = some r := by
  obtain ⟨r0, r1, r2, r3⟩ := hr
  intro d
  induction d with
  | zero =>
    intro i h0 hd k
    obtain rfl : i = r := by omega
    rw [show k + 0 + l.length + 2 = (k + l.length + 1) + 1 by omega, remontoirref08_First.l0, if_pos r1, if_pos r0, rahead a _ l hl k]
    simp only [Option.bind_some]
    rw [if_pos (cnt_zero.2 r2)]
  | succ d ih =>
    intro i h0 hd k
    rw [show k + (d + 1) + l.length + 2 = (k + d + 1 + l.length + 1) + 1 by omega, remontoirref08_First.l0, if_pos (by omega), if_pos h0, rahead a _ l hl (k + d + 1)]
    simp only [Option.bind_some]
    rw [if_neg (fun hc => cnt_zero.1 hc r r0 r1 (r3 i h0 (by omega))), wi (n := l.length) h0 (by omega) hl, show k + d + 1 + l.length + 1 = k + d + l.length + 2 by omega]
    exact ih (i + 1) (by omega) (by omega) k
theorem tells_from (a n1 : Int) (x : S26) (l : List S26) (hl : l.length ≤ 40) : ∀ (d : Nat) (i : Int), 0 ≤ i → (l.length : Int) - i = d → ∀ k,
    remontoirlaw08_TurnTells.l0 (k + d + 150) l a i a n1 x.f0 x.f1 x.f2 = some true := by
  intro d
  induction d with
  | zero =>
    intro i h0 hd k
    obtain ⟨q, hq, hh⟩ := first a l (by omega)
    have e1 : turn_First.f (k + 149) a l = some q := by
      have := hq (k + 148 - l.length)
      rwa [show k + 148 - l.length + l.length + 1 = k + 149 by omega] at this
    have e2 : remontoirref08_First.f (k + 149) a l = some q := by
      unfold remontoirref08_First.f
      rcases hh with ⟨rfl, rfl⟩ | hf
      · rw [remontoirref08_First.l0, if_neg (by simp)]
      · have ⟨h1, h2, _⟩ := hf
        have := rfirst_from a l (by omega) q hf q.toNat 0 (by omega) (by omega) (k + 147 - q.toNat - l.length)
        rwa [show k + 147 - q.toNat - l.length + q.toNat + l.length + 2 = k + 149 by omega] at this
    have e3 : turn_Ahead.f (k + 149) a x.f0 x.f1 x.f2 l = some (cnt a x l) := by
      have := Core.ahead a x l (by omega) (k + 148 - l.length)
      rwa [show k + 148 - l.length + l.length + 1 = k + 149 by omega] at this
    have e4 : remontoirref08_Ahead.f (k + 149) a x.f0 x.f1 x.f2 l = some (cnt a x l) := by
      have := rahead a x l (by omega) (k + 148 - l.length)
      rwa [show k + 148 - l.length + l.length + 1 = k + 149 by omega] at this
    have e5 : remontoirlaw08_wakes.f (k + 149) = some true := wakes (k + 129)
    have e6 : turn_Bound.f a n1 = remontoirref08_Bound.f a n1 := by
      unfold turn_Bound.f remontoirref08_Bound.f
      congr 1
      unfold mx mn
      repeat' split
      all_goals omega
    obtain ⟨b, hb⟩ : ∃ b, remontoirref08_Bound.f a n1 = some b := ⟨_, rfl⟩
    rw [show k + 0 + 150 = (k + 149) + 1 by omega, remontoirlaw08_TurnTells.l0, if_neg (by omega), good, rgood, turn, rturn, e1, e2, e3, e4, e5, e6, hb]
    simp
  | succ d ih =>
    intro i h0 hd k
    rw [show k + (d + 1) + 150 = (k + d + 150) + 1 by omega, remontoirlaw08_TurnTells.l0, if_pos (by omega), if_pos h0, less, rless, less, rless, turn, rturn]
    simp only [Option.bind_some, bne_self_eq_false, Bool.false_eq_true, if_false, if_true]
    rw [wi (n := l.length) h0 (by omega) (by omega)]
    exact ih (i + 1) (by omega) (by omega) k
theorem tells (a n1 : Int) (x : S26) (l : List S26) : ∃ k, remontoirlaw08_TurnTells.f k a n1 x.f0 x.f1 x.f2 l = some true := by
  by_cases h : (l.length : Int) > 40
  · refine ⟨20, ?_⟩
    unfold remontoirlaw08_TurnTells.f
    rw [if_pos h, wakes 0]
    rfl
  · refine ⟨0 + l.length + 150, ?_⟩
    unfold remontoirlaw08_TurnTells.f
    rw [if_neg h]
    exact tells_from a n1 x l (by omega) l.length 0 (by omega) (by omega) 0
def job (ns : List Int) : S26 := ⟨ns.headD 0, ns.tail.headD 0, ns.tail.tail.headD 0⟩
theorem job_K (W : World) (ns : List Int) (h : Fits [.i64, .i64, .i64] ns) : k26.K W (job ns) (ints [.i64, .i64, .i64] ns) := by
  obtain ⟨a, r, rfl, _, h⟩ := fits_cons h
  obtain ⟨b, r, rfl, _, h⟩ := fits_cons h
  obtain ⟨c, r, rfl, _, h⟩ := fits_cons h
  obtain rfl := fits_nil h
  exact k26_mk W (job [a, b, c])
set_option linter.unusedVariables false
theorem calls (W : World) (a0_0 : Int) (w0_0 : (Lit.int .i64 a0_0).wf = true) (a0_1 : Int) (w0_1 : (Lit.int .i64 a0_1).wf = true) (a1_0 : Int) (w1_0 : (Lit.int .i64 a1_0).wf = true) (a1_1 : Int) (w1_1 : (Lit.int .i64 a1_1).wf = true) (a1_2 : Int) (w1_2 : (Lit.int .i64 a1_2).wf = true) (a2 : Option Addr) (c2 : Nat) (l2 : List (List Int)) (r2 : RowsOf W [.i64, .i64, .i64] a2 l2) (x2 : l2.length ≤ c2) (m2 : c2 ≤ maxLen) (y2 : l2.length * 24 ≤ 140737488351232) :
    Calls Try.prog 6 #[.agg #[.int .i64 a0_0, .int .i64 a0_1], .agg #[.int .i64 a1_0, .int .i64 a1_1, .int .i64 a1_2], .slice a2 l2.length c2] W fun e w' => e = .returned (.bool true) ∧ Below W.heap.size W w' := by
  obtain ⟨k, hk⟩ := tells a0_0 a0_1 ⟨a1_0, a1_1, a1_2⟩ (l2.map job)
  have h := remontoirlaw08_TurnTells.calls k a0_0 a0_1 a1_0 a1_1 a1_2 a2 c2 (l2.map job) true W (kd_rows (d := k26) job rfl (job_K W) r2 (by omega)) (by simpa using x2) hk
  rw [List.length_map] at h
  exact h
end Go.Proofs.Ytdnonlapiheenaa.CallTurnTells
