/- What the functions of layer 8 come to, over the printed functions: turns, who is ahead, the first one, how many are ahead. Conditions: none. -/
import Derived.Test.YtdnonlapiheenaaPAllx2
import Derived.Test.YtdnonlapiheenaaPAllx6
namespace Go.Proofs.Ytdnonlapiheenaa.Core
open Go.RowKit Go.Proofs.Ytdnonlapiheenaa.PAll Go.Proofs.YtdnonlapiheenaaW.PrintWords Go.Proofs.YtdnonlapiheenaaW.PrintLast

/-- May it wait? -/
def Gd (c t : Int) : Prop := 0 ≤ c ∧ c ≤ 7 ∧ 0 ≤ t ∧ t ≤ 1099511627776
instance (c t : Int) : Decidable (Gd c t) := by unfold Gd; infer_instance
/-- Its turn. -/
def T (a c t : Int) : Int := if Gd c t ∧ 1 ≤ a ∧ a ≤ 1000 then t + a * c else 0
theorem T_nonneg (a c t : Int) : 0 ≤ T a c t := by
  unfold T
  split
  · rename_i h
    unfold Gd at h
    have := Int.mul_nonneg (show 0 ≤ a by omega) (show 0 ≤ c by omega)
    omega
  · omega
theorem T_of {a c t : Int} (h : Gd c t) (h1 : 1 ≤ a) (h2 : a ≤ 1000) : T a c t = t + a * c := by unfold T; rw [if_pos ⟨h, h1, h2⟩]
theorem isIn (a b c : Int) : turn_in.f a b c = some (decide (b ≤ a ∧ a ≤ c)) := by
  unfold turn_in.f
  by_cases h : a ≥ b
  · rw [if_pos h]; congr 1; rw [decide_eq_decide]; omega
  · rw [if_neg h]; congr 1; symm; rw [decide_eq_false_iff_not]; omega
theorem good (i c t : Int) : turn_Good.f i c t = some (decide (Gd c t)) := by
  unfold turn_Good.f
  simp only [isIn, Option.bind_some, decide_eq_true_eq]
  by_cases h : 0 ≤ c ∧ c ≤ 7
  · rw [if_pos h]; congr 1; rw [decide_eq_decide]; unfold Gd; omega
  · rw [if_neg h]; congr 1; symm; rw [decide_eq_false_iff_not]; unfold Gd; omega
theorem small {a c t : Int} (h : Gd c t) (h1 : 1 ≤ a) (h2 : a ≤ 1000) : wrap64 (t + wrap64 (a * c)) = t + a * c := by
  unfold Gd at h
  have h3 := Int.mul_nonneg (show 0 ≤ a by omega) (show 0 ≤ c by omega)
  have h4 : a * c ≤ 1000 * 7 := Int.mul_le_mul h2 h.2.1 h.1 (by omega)
  unfold wrap64
  omega
theorem turn (a i c t : Int) : turn_Turn.f a i c t = some (T a c t) := by
  unfold turn_Turn.f T
  simp only [good, isIn, Option.bind_some, decide_eq_true_eq]
  by_cases h : Gd c t
  · rw [if_pos h]
    by_cases h1 : 1 ≤ a ∧ a ≤ 1000
    · rw [if_pos h1, if_pos ⟨h, h1⟩, small h h1.1 h1.2]
    · rw [if_neg h1, if_neg (fun hh => h1 hh.2)]
  · rw [if_neg h, if_neg (fun hh => h hh.1)]
/-- Who is ahead. -/
def Ls (a : Int) (x y : S26) : Prop := T a x.f1 x.f2 < T a y.f1 y.f2 ∨ (T a x.f1 x.f2 = T a y.f1 y.f2 ∧ x.f0 < y.f0)
instance (a : Int) (x y : S26) : Decidable (Ls a x y) := by unfold Ls; infer_instance
theorem less (a : Int) (x y : S26) : turn_Less.f a x.f0 x.f1 x.f2 y.f0 y.f1 y.f2 = some (decide (Ls a x y)) := by
  unfold turn_Less.f Ls
  simp only [turn, Option.bind_some]
  by_cases h : T a x.f1 x.f2 < T a y.f1 y.f2
  · rw [if_pos h]; simp [h]
  · rw [if_neg h]
    by_cases h1 : T a x.f1 x.f2 = T a y.f1 y.f2
    · rw [if_pos h1]; simp [h1]
    · rw [if_neg h1]; simp [h, h1]
theorem less' (a i c t i' c' t' : Int) : turn_Less.f a i c t i' c' t' = some (decide (Ls a ⟨i, c, t⟩ ⟨i', c', t'⟩)) := less a ⟨i, c, t⟩ ⟨i', c', t'⟩
theorem Ls.irrefl (a : Int) (x : S26) : ¬ Ls a x x := by unfold Ls; omega
theorem Ls.trans {a : Int} {x y z : S26} (h : Ls a x y) (k : Ls a y z) : Ls a x z := by unfold Ls at *; omega
theorem Ls.not_trans {a : Int} {x y z : S26} (h : ¬ Ls a x y) (k : ¬ Ls a y z) : ¬ Ls a x z := by unfold Ls at *; omega
theorem Ls.asymm {a : Int} {x y : S26} (h : Ls a x y) : ¬ Ls a y x := by unfold Ls at *; omega

/-! ### The reference -/
theorem rgood (i c t : Int) : remontoirref08_Good.f i c t = some (decide (Gd c t)) := by
  unfold remontoirref08_Good.f
  repeat' split
  all_goals (congr 1; first | (rw [decide_eq_decide]; unfold Gd; omega) | (symm; rw [decide_eq_false_iff_not]; unfold Gd; omega))
theorem rturn (a i c t : Int) : remontoirref08_Turn.f a i c t = some (T a c t) := by
  unfold remontoirref08_Turn.f T
  simp only [rgood, Option.bind_some, decide_eq_true_eq]
  by_cases h : Gd c t
  · rw [if_pos h]
    by_cases h1 : a < 1
    · rw [if_pos h1, if_neg (by omega)]
    · rw [if_neg h1]
      by_cases h2 : a > 1000
      · rw [if_pos h2, if_neg (by omega)]
      · rw [if_neg h2, if_pos ⟨h, by omega, by omega⟩, small h (by omega) (by omega)]
  · rw [if_neg h, if_neg (fun hh => h hh.1)]
theorem rless (a : Int) (x y : S26) : remontoirref08_Less.f a x.f0 x.f1 x.f2 y.f0 y.f1 y.f2 = some (decide (Ls a x y)) := by
  unfold remontoirref08_Less.f Ls
  simp only [rturn, Option.bind_some]
  by_cases h : T a x.f1 x.f2 < T a y.f1 y.f2
  · rw [if_pos h]; simp [h]
  · rw [if_neg h]
    by_cases h1 : T a x.f1 x.f2 = T a y.f1 y.f2
    · rw [if_pos h1]; simp [h1]
    · rw [if_neg h1]; simp [h, h1]

/-! ### How many are ahead -/
def cnt (a : Int) (w : S26) (l : List S26) : Int := (l.countP fun x => decide (Ls a x w)).cast
theorem cnt_nonneg (a : Int) (w : S26) (l : List S26) : 0 ≤ cnt a w l := by unfold cnt; omega
theorem cnt_le (a : Int) (w : S26) (l : List S26) : cnt a w l ≤ l.length := by unfold cnt; have := List.countP_le_length (l := l) (p := fun x => decide (Ls a x w)); omega
theorem wi {i : Int} {n : Nat} (h0 : 0 ≤ i) (h : i < n) (hn : n ≤ 17592186044416) : wrap64 (i + 1) = i + 1 := by unfold wrap64; omega
theorem drop_rd {xs : List S26} {i : Int} (h0 : 0 ≤ i) (h1 : i < xs.length) : xs.drop i.toNat = rd_T26 xs i :: xs.drop (i + 1).toNat := by
  rw [List.drop_eq_getElem_cons (by omega), show (i + 1).toNat = i.toNat + 1 by omega]
  unfold rd_T26
  rw [List.getD_eq_getElem?_getD, List.getElem?_eq_getElem (by omega)]
  rfl
theorem ahead_from (a : Int) (w : S26) (l : List S26) (hl : l.length ≤ 17592186044416) : ∀ (d : Nat) (n i : Int), 0 ≤ i → (l.length : Int) - i = d → 0 ≤ n → n ≤ i → ∀ k,
    turn_Ahead.l0 (k + d + 1) a n l l.length i w.f0 w.f1 w.f2 = some (n + cnt a w (l.drop i.toNat)) := by
  intro d
  induction d with
  | zero =>
    intro n i h0 hd hn hni k
    rw [turn_Ahead.l0, if_neg (by omega), List.drop_of_length_le (by omega)]
    simp [cnt]
  | succ d ih =>
    intro n i h0 hd hn hni k
    rw [show k + (d + 1) + 1 = (k + d + 1) + 1 by omega, turn_Ahead.l0, if_pos (by omega), if_pos h0, if_pos (by omega), less, drop_rd h0 (by omega)]
    simp only [Option.bind_some]
    rw [wi (n := l.length) h0 (by omega) hl, wi (n := l.length) hn (by omega) hl]
    by_cases h : Ls a (rd_T26 l i) w
    · rw [decide_eq_true h, if_pos rfl, ih _ _ (by omega) (by omega) (by omega) (by omega)]
      unfold cnt
      rw [List.countP_cons_of_pos (by simpa using h)]
      congr 1
      omega
    · rw [decide_eq_false h, if_neg (by decide), ih _ _ (by omega) (by omega) (by omega) (by omega)]
      unfold cnt
      rw [List.countP_cons_of_neg (by simpa using h)]
theorem ahead (a : Int) (w : S26) (l : List S26) (hl : l.length ≤ 17592186044416) (k : Nat) : turn_Ahead.f (k + l.length + 1) a w.f0 w.f1 w.f2 l = some (cnt a w l) := by
  unfold turn_Ahead.f
  rw [ahead_from a w l hl l.length 0 0 (by omega) (by omega) (by omega) (by omega)]
  simp
theorem rahead_from (a : Int) (w : S26) (l : List S26) (hl : l.length ≤ 17592186044416) : ∀ (d : Nat) (n i : Int), 0 ≤ i → (l.length : Int) - i = d → 0 ≤ n → n ≤ i → ∀ k,
    remontoirref08_Ahead.l0 (k + d + 1) a l n i w.f0 w.f1 w.f2 = some (n + cnt a w (l.drop i.toNat)) := by
  intro d
  induction d with
  | zero =>
    intro n i h0 hd hn hni k
    rw [remontoirref08_Ahead.l0, if_neg (by omega), List.drop_of_length_le (by omega)]
    simp [cnt]
  | succ d ih =>
    intro n i h0 hd hn hni k
    rw [show k + (d + 1) + 1 = (k + d + 1) + 1 by omega, remontoirref08_Ahead.l0, if_pos (by omega), if_pos h0, rless, drop_rd h0 (by omega)]
    simp only [Option.bind_some]
    rw [wi (n := l.length) h0 (by omega) hl, wi (n := l.length) hn (by omega) hl]
    by_cases h : Ls a (rd_T26 l i) w
    · rw [decide_eq_true h, if_pos rfl, ih _ _ (by omega) (by omega) (by omega) (by omega)]
      unfold cnt
      rw [List.countP_cons_of_pos (by simpa using h)]
      congr 1
      omega
    · rw [decide_eq_false h, if_neg (by decide), ih _ _ (by omega) (by omega) (by omega) (by omega)]
      unfold cnt
      rw [List.countP_cons_of_neg (by simpa using h)]
theorem rahead (a : Int) (w : S26) (l : List S26) (hl : l.length ≤ 17592186044416) (k : Nat) : remontoirref08_Ahead.f (k + l.length + 1) a w.f0 w.f1 w.f2 l = some (cnt a w l) := by
  unfold remontoirref08_Ahead.f
  rw [rahead_from a w l hl l.length 0 0 (by omega) (by omega) (by omega) (by omega)]
  simp

/-! ### The first one -/
/-- r is the first one of the first i: nobody of these is ahead of it, and it is ahead of all that stand before it. -/
def IsFirst (a : Int) (l : List S26) (i r : Int) : Prop := 0 ≤ r ∧ r < i ∧ (∀ j, 0 ≤ j → j < i → ¬ Ls a (rd_T26 l j) (rd_T26 l r)) ∧ ∀ j, 0 ≤ j → j < r → Ls a (rd_T26 l r) (rd_T26 l j)
theorem first_from (a : Int) (l : List S26) (hl : l.length ≤ 17592186044416) : ∀ (d : Nat) (r i : Int), 0 ≤ i → (l.length : Int) - i = d → (i = 0 ∧ r = -1 ∨ IsFirst a l i r) →
    ∃ q, (∀ k, turn_First.l0 (k + d + 1) a l r l l.length i = some q) ∧ (l = [] ∧ q = -1 ∨ IsFirst a l l.length q) := by
  intro d
  induction d with
  | zero =>
    intro r i h0 hd hr
    refine ⟨r, fun k => by rw [turn_First.l0, if_neg (by omega)], ?_⟩
    have hi : i = l.length := by omega
    subst hi
    rcases hr with ⟨h, hr⟩ | hr
    · exact .inl ⟨List.eq_nil_of_length_eq_zero (by omega), hr⟩
    · exact .inr hr
  | succ d ih =>
    intro r i h0 hd hr
    have step : ∀ r', (∀ k, turn_First.l0 (k + (d + 1) + 1) a l r l l.length i = turn_First.l0 (k + d + 1) a l r' l l.length (i + 1)) → IsFirst a l (i + 1) r' → ∃ q, (∀ k, turn_First.l0 (k + (d + 1) + 1) a l r l l.length i = some q) ∧ (l = [] ∧ q = -1 ∨ IsFirst a l l.length q) := by
      intro r' he hf
      obtain ⟨q, hq, hh⟩ := ih r' (i + 1) (by omega) (by omega) (.inr hf)
      exact ⟨q, fun k => (he k).trans (hq k), hh⟩
    have w := wi (n := l.length) h0 (by omega) hl
    rcases hr with ⟨rfl, rfl⟩ | hr
    · refine step 0 (fun k => ?_) ⟨by omega, by omega, fun j h1 h2 => ?_, fun j h1 h2 => by omega⟩
      · rw [show k + (d + 1) + 1 = (k + d + 1) + 1 by omega, turn_First.l0, if_pos (by omega), if_pos (by omega), if_pos (by omega), if_pos (by omega), w]
      · obtain rfl : j = 0 := by omega
        exact Ls.irrefl _ _
    · obtain ⟨r0, r1, r2, r3⟩ := hr
      by_cases h : Ls a (rd_T26 l i) (rd_T26 l r)
      · refine step i (fun k => ?_) ⟨h0, by omega, fun j h1 h2 => ?_, fun j h1 h2 => ?_⟩
        · rw [show k + (d + 1) + 1 = (k + d + 1) + 1 by omega, turn_First.l0, if_pos (by omega), if_pos h0, if_pos (by omega), if_neg (by omega), if_pos r0, if_pos (by omega), less]
          simp only [Option.bind_some]
          rw [decide_eq_true h, if_pos rfl, w]
        · rcases Int.lt_or_eq_of_le (show j ≤ i by omega) with h3 | h3
          · exact fun hc => r2 j h1 h3 (hc.trans h)
          · subst h3; exact Ls.irrefl _ _
        · by_cases hj : Ls a (rd_T26 l i) (rd_T26 l j)
          · exact hj
          · exact absurd h (Ls.not_trans hj (r2 j h1 h2))
      · refine step r (fun k => ?_) ⟨r0, by omega, fun j h1 h2 => ?_, r3⟩
        · rw [show k + (d + 1) + 1 = (k + d + 1) + 1 by omega, turn_First.l0, if_pos (by omega), if_pos h0, if_pos (by omega), if_neg (by omega), if_pos r0, if_pos (by omega), less]
          simp only [Option.bind_some]
          rw [decide_eq_false h, if_neg (by decide), w]
        · rcases Int.lt_or_eq_of_le (show j ≤ i by omega) with h3 | h3
          · exact r2 j h1 h3
          · subst h3; exact h
theorem first (a : Int) (l : List S26) (hl : l.length ≤ 17592186044416) : ∃ q, (∀ k, turn_First.f (k + l.length + 1) a l = some q) ∧ (l = [] ∧ q = -1 ∨ IsFirst a l l.length q) := by
  obtain ⟨q, hq, hh⟩ := first_from a l hl l.length (-1) 0 (by omega) (by omega) (.inl ⟨rfl, rfl⟩)
  exact ⟨q, fun k => hq k, hh⟩
theorem bound (a r : Int) : turn_Bound.f a r = some (mx 1 (mn a 1000) * 8 + mx 0 (mn r 1000)) := rfl
theorem wakes (k : Nat) : remontoirlaw08_wakes.f (k + 20) = some true := by
  have h : remontoirlaw08_wakes.f 20 = some true := by decide +kernel
  exact at_rounds remontoirlaw08_wakes.mono (by omega) h
end Go.Proofs.Ytdnonlapiheenaa.Core
