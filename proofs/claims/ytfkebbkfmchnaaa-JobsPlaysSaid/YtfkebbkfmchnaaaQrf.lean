/- The reference's functions, plain: what the printed walks tell. Conditions: the lists' lengths. -/
import Derived.Test.YtfkebbkfmchnaaaGb
import Derived.Test.YtfkebbkfmchnaaaPRefx2
namespace Go.Proofs.Ytfkebbkfmchnaaa.Ln
open Go.RowKit Go.Proofs.Ytfkebbkfmchnaaa.PBase Go.Proofs.Ytfkebbkfmchnaaa.PRef Go.Proofs.Ytfkebbkfmchnaaa.Heap
set_option linter.unusedVariables false
theorem w1 {i n : Nat} (h : i < n) (hn : n ≤ 1000000) : wrap64 ((i : Int) + 1) = ((i + 1 : Nat) : Int) := by unfold wrap64; omega
theorem rd_get {L : List S77} {i : Nat} (h : i < L.length) : rd_T77 L (i : Int) = L[i] := by simp [rd_T77, h]
/-- find: the place. -/
theorem in_is (n a b : Int) : turn_in.f n a b = some (decide (a ≤ n ∧ n ≤ b)) := by
  unfold turn_in.f
  by_cases h : n ≥ a
  · rw [if_pos h]
    congr 1
    exact decide_eq_decide.2 ⟨fun k => ⟨h, k⟩, fun k => k.2⟩
  · rw [if_neg h]
    congr 1
    exact (decide_eq_false (fun k => h k.1)).symm
theorem good_is (a b c : Int) : turn_Good.f a b c = some (decide ((0 ≤ b ∧ b < 8) ∧ 0 ≤ c ∧ c ≤ 1099511627776)) := by
  unfold turn_Good.f
  rw [in_is, Option.bind_some]
  by_cases h : 0 ≤ b ∧ b ≤ 7
  · rw [if_pos (decide_eq_true h), in_is, Option.bind_some]
    congr 1
    exact decide_eq_decide.2 ⟨fun k => ⟨⟨h.1, by omega⟩, k⟩, fun k => k.2⟩
  · rw [if_neg (by simpa using h)]
    congr 1
    exact (decide_eq_false (fun k => h ⟨k.1.1, by omega⟩)).symm
theorem rgood_is (a b c : Int) : remontoirref08_Good.f a b c = some (decide ((0 ≤ b ∧ b < 8) ∧ 0 ≤ c ∧ c ≤ 1099511627776)) := by
  unfold remontoirref08_Good.f
  by_cases h1 : b ≥ 0
  · rw [if_pos h1]
    by_cases h2 : b < 8
    · rw [if_pos h2]
      by_cases h3 : c ≥ 0
      · rw [if_pos h3]
        congr 1
        exact decide_eq_decide.2 ⟨fun k => ⟨⟨h1, h2⟩, h3, k⟩, fun k => k.2.2⟩
      · rw [if_neg h3]
        congr 1
        exact (decide_eq_false (fun k => h3 k.2.1)).symm
    · rw [if_neg h2]
      congr 1
      exact (decide_eq_false (fun k => h2 k.1.2)).symm
  · rw [if_neg h1]
    congr 1
    exact (decide_eq_false (fun k => h1 k.1.1)).symm
/-- The reference's order is the order. -/
theorem ref_turn (ag : Int) (x : S77) : remontoirref08_Turn.f ag x.f0 x.f1 x.f2 = some (tv ag x) := by
  rw [← tv_is]
  unfold turn_Turn.f remontoirref08_Turn.f
  rw [good_is, rgood_is, Option.bind_some, Option.bind_some]
  generalize decide ((0 ≤ x.f1 ∧ x.f1 < 8) ∧ 0 ≤ x.f2 ∧ x.f2 ≤ 1099511627776) = g
  cases g with
  | false => rfl
  | true =>
    rw [if_pos rfl, if_pos rfl, in_is, Option.bind_some]
    by_cases h1 : ag < 1
    · rw [if_pos h1, if_neg (by simp; omega)]
    · rw [if_neg h1]
      by_cases h2 : ag > 1000
      · rw [if_pos h2, if_neg (by simp; omega)]
      · rw [if_neg h2, if_pos (decide_eq_true (by omega))]
theorem ref_less (ag : Int) (x y : S77) : remontoirref08_Less.f ag x.f0 x.f1 x.f2 y.f0 y.f1 y.f2 = some (lt ag x y) := by
  unfold remontoirref08_Less.f
  rw [ref_turn, ref_turn, Option.bind_some, Option.bind_some]
  by_cases h1 : tv ag x < tv ag y
  · rw [if_pos h1, (lt_iff ag x y).2 (.inl h1)]
  · rw [if_neg h1]
    by_cases h2 : tv ag x = tv ag y
    · rw [if_pos h2]
      congr 1
      by_cases h3 : x.f0 < y.f0
      · rw [decide_eq_true h3, (lt_iff ag x y).2 (.inr ⟨h2, h3⟩)]
      · rw [decide_eq_false h3, (lt_false ag x y).2 (by omega)]
    · rw [if_neg h2, (lt_false ag x y).2 (by omega)]
/-- How many are ahead of one. -/
def cnt (ag : Int) (w : S77) (L : List S77) : Nat := L.countP (fun x => lt ag x w)
theorem ref_ahead_go (ag : Int) (w : S77) : ∀ (n : Nat) (L : List S77) (i m : Nat), L.length ≤ i + n → i ≤ L.length → m ≤ i → L.length ≤ 1000000 →
    remontoirref08_Ahead.l0 (n + 1) ag L (m : Int) (i : Int) w.f0 w.f1 w.f2 = some (((m + cnt ag w (L.drop i) : Nat) : Int)) := by
  intro n
  induction n with
  | zero =>
    intro L i m h1 h2 hm h3
    rw [remontoirref08_Ahead.l0, if_neg (by omega), List.drop_eq_nil_of_le (by omega)]
    rfl
  | succ n ih =>
    intro L i m h1 h2 hm h3
    rw [remontoirref08_Ahead.l0]
    by_cases c1 : (i : Int) < (L.length : Int)
    · have hi : i < L.length := by omega
      rw [if_pos c1, if_pos (by omega), rd_get hi, ref_less, Option.bind_some, List.drop_eq_getElem_cons hi]
      unfold cnt
      rw [List.countP_cons]
      cases c2 : lt ag L[i] w with
      | true =>
        rw [if_pos rfl, w1 (i := m) (n := L.length) (by omega) h3, w1 hi h3, ih L (i + 1) (m + 1) (by omega) (by omega) (by omega) h3, if_pos rfl]
        unfold cnt
        congr 2
        omega
      | false =>
        rw [if_neg (by decide), w1 hi h3, ih L (i + 1) m (by omega) (by omega) (by omega) h3, if_neg (by decide)]
        rfl
    · rw [if_neg c1, List.drop_eq_nil_of_le (by omega)]
      rfl
theorem ref_ahead (ag : Int) (w : S77) (L : List S77) (n : Nat) (hn : L.length ≤ n) (h : L.length ≤ 1000000) : remontoirref08_Ahead.f (n + 1) ag w.f0 w.f1 w.f2 L = some ((cnt ag w L : Nat) : Int) := by
  have := ref_ahead_go ag w n L 0 0 (by omega) (by omega) (Nat.le_refl _) h
  simpa [remontoirref08_Ahead.f] using this
/-- The first of some: its place. -/
def fst (ag : Int) (A : List S77) : Nat → List S77 → Int
  | _, [] => -1
  | i, y :: L => if cnt ag y A = 0 then (i : Int) else fst ag A (i + 1) L
theorem ref_first_go (ag : Int) : ∀ (n k : Nat) (L : List S77) (i : Nat), L.length ≤ i + n → i ≤ L.length → L.length ≤ k → L.length ≤ 1000000 →
    remontoirref08_First.l0 (k + 2 + n) ag L (i : Int) = some (fst ag L i (L.drop i)) := by
  intro n
  induction n with
  | zero =>
    intro k L i h1 h2 hk h3
    rw [show k + 2 + 0 = (k + 1) + 1 by omega, remontoirref08_First.l0, if_neg (by omega), List.drop_eq_nil_of_le (by omega)]
    rfl
  | succ n ih =>
    intro k L i h1 h2 hk h3
    rw [show k + 2 + (n + 1) = (k + 2 + n) + 1 by omega, remontoirref08_First.l0]
    by_cases c1 : (i : Int) < (L.length : Int)
    · have hi : i < L.length := by omega
      rw [if_pos c1, if_pos (by omega), rd_get hi, show k + 2 + n = (k + 1 + n) + 1 by omega, ref_ahead ag L[i] L (k + 1 + n) (by omega) h3, Option.bind_some, List.drop_eq_getElem_cons hi]
      unfold fst
      by_cases c2 : cnt ag L[i] L = 0
      · rw [if_pos (by omega), if_pos c2]
      · rw [if_neg (by omega), if_neg c2, w1 hi h3, show (k + 1 + n) + 1 = k + 2 + n by omega]
        exact ih k L (i + 1) (by omega) (by omega) hk h3
    · rw [if_neg c1, List.drop_eq_nil_of_le (by omega)]
      rfl
theorem ref_first (ag : Int) (L : List S77) (h : L.length ≤ 1000000) : remontoirref08_First.f (L.length + 2 + L.length) ag L = some (fst ag L 0 L) := by
  have := ref_first_go ag L.length L.length L 0 (by omega) (by omega) (Nat.le_refl _) h
  simpa [remontoirref08_First.f] using this
theorem fst_cases (ag : Int) (A : List S77) : ∀ (L : List S77) (i : Nat), (fst ag A i L = -1 ∧ ∀ y ∈ L, cnt ag y A ≠ 0) ∨ ∃ j, ∃ h : j < L.length, fst ag A i L = ((i + j : Nat) : Int) ∧ cnt ag L[j] A = 0 := by
  intro L
  induction L with
  | nil => intro i; exact .inl ⟨rfl, fun y h => (List.not_mem_nil h).elim⟩
  | cons y L ih =>
    intro i
    unfold fst
    by_cases c : cnt ag y A = 0
    · rw [if_pos c]
      exact .inr ⟨0, by simp, by simp, c⟩
    · rw [if_neg c]
      rcases ih (i + 1) with ⟨h1, h2⟩ | ⟨j, hj, h1, h2⟩
      · refine .inl ⟨h1, fun z hz => ?_⟩
        rcases List.mem_cons.1 hz with rfl | hz
        · exact c
        · exact h2 z hz
      · exact .inr ⟨j + 1, by simpa using hj, by rw [h1]; omega, h2⟩
theorem cnt_zero {ag : Int} {w : S77} {L : List S77} : cnt ag w L = 0 ↔ ∀ x ∈ L, lt ag x w = false := by
  unfold cnt
  rw [List.countP_eq_zero]
  simp
end Go.Proofs.Ytfkebbkfmchnaaa.Ln
