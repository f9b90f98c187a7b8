/- What the functions of layer 8 come to, over the printed functions: turns, who is ahead, the first one, how many are ahead. Conditions: none. -/
import Derived.Test.YtdnonlapiheenaaPOrdx2
import Derived.Test.YtdnonlapiheenaaPOrdx1
namespace Go.Proofs.Ytdnonlapiheenaa.CoreOrd
open Go.RowKit Go.Proofs.Ytdnonlapiheenaa.POrd Go.Proofs.YtdnonlapiheenaaW.PrintWords Go.Proofs.YtdnonlapiheenaaW.PrintLast

/-- May it wait? -/
def Gd (c t : Int) : Prop := 0 ≤ c ∧ c ≤ 7 ∧ 0 ≤ t ∧ t ≤ 1099511627776
instance (c t : Int) : Decidable (Gd c t) := by unfold Gd; infer_instance
/-- Its turn. -/
def T (a c t : Int) : Int := if Gd c t ∧ 1 ≤ a ∧ a ≤ 1000 then t + a * c else 0
theorem T_nonneg (a c t : Int) : 0 ≤ T a c t := by
  unfold T
  split
  · rename_i h
    unfold Gd at h
    have := Int.mul_nonneg (show 0 ≤ a by omega) (show 0 ≤ c by omega)
    omega
  · omega
theorem T_of {a c t : Int} (h : Gd c t) (h1 : 1 ≤ a) (h2 : a ≤ 1000) : T a c t = t + a * c := by unfold T; rw [if_pos ⟨h, h1, h2⟩]
theorem isIn (a b c : Int) : turn_in.f a b c = some (decide (b ≤ a ∧ a ≤ c)) := by
  unfold turn_in.f
  by_cases h : a ≥ b
  · rw [if_pos h]; congr 1; rw [decide_eq_decide]; omega
  · rw [if_neg h]; congr 1; symm; rw [decide_eq_false_iff_not]; omega
theorem good (i c t : Int) : turn_Good.f i c t = some (decide (Gd c t)) := by
  unfold turn_Good.f
  simp only [isIn, Option.bind_some, decide_eq_true_eq]
  by_cases h : 0 ≤ c ∧ c ≤ 7
  · rw [if_pos h]; congr 1; rw [decide_eq_decide]; unfold Gd; omega
  · rw [if_neg h]; congr 1; symm; rw [decide_eq_false_iff_not]; unfold Gd; omega
theorem small {a c t : Int} (h : Gd c t) (h1 : 1 ≤ a) (h2 : a ≤ 1000) : wrap64 (t + wrap64 (a * c)) = t + a * c := by
  unfold Gd at h
  have h3 := Int.mul_nonneg (show 0 ≤ a by omega) (show 0 ≤ c by omega)
  have h4 : a * c ≤ 1000 * 7 := Int.mul_le_mul h2 h.2.1 h.1 (by omega)
  unfold wrap64
  omega
theorem turn (a i c t : Int) : turn_Turn.f a i c t = some (T a c t) := by
  unfold turn_Turn.f T
  simp only [good, isIn, Option.bind_some, decide_eq_true_eq]
  by_cases h : Gd c t
  · rw [if_pos h]
    by_cases h1 : 1 ≤ a ∧ a ≤ 1000
    · rw [if_pos h1, if_pos ⟨h, h1⟩, small h h1.1 h1.2]
    · rw [if_neg h1, if_neg (fun hh => h1 hh.2)]
  · rw [if_neg h, if_neg (fun hh => h hh.1)]
/-- Who is ahead. -/
def Ls (a : Int) (x y : S26) : Prop := T a x.f1 x.f2 < T a y.f1 y.f2 ∨ (T a x.f1 x.f2 = T a y.f1 y.f2 ∧ x.f0 < y.f0)
instance (a : Int) (x y : S26) : Decidable (Ls a x y) := by unfold Ls; infer_instance
theorem less (a : Int) (x y : S26) : turn_Less.f a x.f0 x.f1 x.f2 y.f0 y.f1 y.f2 = some (decide (Ls a x y)) := by
  unfold turn_Less.f Ls
  simp only [turn, Option.bind_some]
  by_cases h : T a x.f1 x.f2 < T a y.f1 y.f2
  · rw [if_pos h]; simp [h]
  · rw [if_neg h]
    by_cases h1 : T a x.f1 x.f2 = T a y.f1 y.f2
    · rw [if_pos h1]; simp [h1]
    · rw [if_neg h1]; simp [h, h1]
theorem less' (a i c t i' c' t' : Int) : turn_Less.f a i c t i' c' t' = some (decide (Ls a ⟨i, c, t⟩ ⟨i', c', t'⟩)) := less a ⟨i, c, t⟩ ⟨i', c', t'⟩
theorem Ls.irrefl (a : Int) (x : S26) : ¬ Ls a x x := by unfold Ls; omega
theorem Ls.trans {a : Int} {x y z : S26} (h : Ls a x y) (k : Ls a y z) : Ls a x z := by unfold Ls at *; omega
theorem Ls.not_trans {a : Int} {x y z : S26} (h : ¬ Ls a x y) (k : ¬ Ls a y z) : ¬ Ls a x z := by unfold Ls at *; omega
theorem Ls.asymm {a : Int} {x y : S26} (h : Ls a x y) : ¬ Ls a y x := by unfold Ls at *; omega

theorem wakes (k : Nat) : remontoirlaw08_wakes.f (k + 20) = some true := by
  have h : remontoirlaw08_wakes.f 20 = some true := by decide +kernel
  exact at_rounds remontoirlaw08_wakes.mono (by omega) h
end Go.Proofs.Ytdnonlapiheenaa.CoreOrd
