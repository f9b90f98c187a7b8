/- PlanSplits: cut at two times, one behind the other, a plan is cut at the later one, and both pieces are a plan; then as a call. Conditions: the bounds that are given. -/
import Derived.Test.YtboneknainlodaaCore
import Derived.Test.YtboneknainlodaaOpenKd
import Derived.OpenShut
namespace Go.Proofs.Ytboneknainlodaa.Core
open Go.RowKit Go.Proofs.Ytboneknainlodaa.PBase Go.Proofs.Ytboneknainlodaa.PAll Go.Proofs.Ytboneknainlodaa.Giv Go.Proofs.YtboneknainlodaaW.PrintWords Go.Proofs.YtboneknainlodaaW.PrintLast
theorem wakes (k : Nat) : remontoirlaw07_wakes.f (k + 10) = some true := by
  induction k with
  | zero => exact wakes_10
  | succ k ih => exact remontoirlaw07_wakes.mono _ _ ih
theorem dues' (l : List S32) (hl : l.length ≤ 2000000) {k : Nat} (hk : l.length + 1 ≤ k) : PAll.remontoirkeep_Dues.f k l l = some true := by
  have := dues l hl (k - l.length - 1)
  rwa [show k - l.length - 1 + l.length + 1 = k by omega] at this
theorem split' (l : List S32) (a : Int) (hl : l.length ≤ 2000000) {k : Nat} (hk : l.length + 1 ≤ k) : PAll.plan_Split.f k l a = some (l.filter (le a), l.filter (gt a)) := by
  have := split l a hl (k - l.length - 1)
  rwa [show k - l.length - 1 + l.length + 1 = k by omega] at this
theorem wakes' {k : Nat} (hk : 10 ≤ k) : remontoirlaw07_wakes.f k = some true := by
  have := wakes (k - 10)
  rwa [show k - 10 + 10 = k by omega] at this
theorem filter_split (l : List S32) (x : Int) (h : l.Pairwise (fun a b => lt a b = true)) : l.filter (le x) ++ l.filter (gt x) = l := by
  induction l with
  | nil => rfl
  | cons d l ih =>
    rw [List.pairwise_cons] at h
    by_cases hd : d.f1 ≤ x
    · rw [List.filter_cons_of_pos (by simp [le, hd]), List.filter_cons_of_neg (by simp [gt, hd]), List.cons_append, ih h.2]
    · have e1 : l.filter (le x) = [] := by
        rw [List.filter_eq_nil_iff]
        intro y hy
        have := (lt_iff _ _).1 (h.1 y hy)
        simp [le]
        omega
      have e2 : l.filter (gt x) = l := by
        rw [List.filter_eq_self]
        intro y hy
        have := (lt_iff _ _).1 (h.1 y hy)
        simp [gt]
        omega
      rw [List.filter_cons_of_neg (by simp [le]; omega), List.filter_cons_of_pos (by simp [gt]; omega), e1, e2, List.nil_append]
theorem Gd.filter {l : List S32} (h : Gd l) (p : S32 → Bool) : Gd (l.filter p) := ⟨h.1.sublist ((List.filter_sublist).map _), h.2.filter p⟩
theorem Ok.filter {l : List S32} (h : Ok l) (p : S32 → Bool) : Ok (l.filter p) := fun d hd => h d (List.mem_filter.1 hd).1
theorem len_split (l : List S32) (x : Int) : (l.filter (le x)).length + (l.filter (gt x)).length = l.length := by
  induction l with
  | nil => rfl
  | cons d l ih =>
    by_cases hd : d.f1 ≤ x
    · rw [List.filter_cons_of_pos (by simp [le, hd]), List.filter_cons_of_neg (by simp [gt, hd])]; simp; omega
    · rw [List.filter_cons_of_neg (by simp [le]; omega), List.filter_cons_of_pos (by simp [gt]; omega)]; simp; omega
theorem wsum {a b c : Nat} (h : a + b = c) (hc : c ≤ 60) : wrap64 ((a : Int) + (b : Int)) = (c : Int) := by unfold wrap64; omega
theorem wsum' {a b c : Nat} (h : a + b = c) (hc : c ≤ 60) : (wrap64 ((a : Int) + (b : Int)) != (c : Int)) = false := by rw [bne_eq_false_iff_eq]; exact wsum h hc
theorem small {a b : Nat} (h : a ≤ 60) (h' : b ≤ 60) : a + b < 8796093022208 := by omega
theorem j0_told (l E F A C : List S32) (hl : l.length ≤ 60) (g1 : E.length ≤ 60) (g2 : F.length ≤ 60) (g3 : A.length ≤ 60) (g4 : C.length ≤ 60) (ho : Ok l) (o1 : Ok E) (o2 : Ok F) (d1 : Gd l → Gd E) (d2 : Gd l → Gd F) (s0 : Gd l → A ++ C = E) (s2 : Gd l → E ++ F = l) :
    remontoirlaw07_PlanSplits.j0 (199 + 1) l A C E F false = some true := by
  rw [remontoirlaw07_PlanSplits.j0, if_neg (by decide)]
  by_cases hg : Gd l
  · rw [good_true l ho (by omega) hg, Option.bind_some, if_pos rfl, good_true _ o1 (by omega) (d1 hg), Option.bind_some, if_pos rfl, good_true _ o2 (by omega) (d2 hg), Option.bind_some, if_pos rfl, Option.bind_some]
    rw [if_pos (show ([] : List S32).length + A.length < 8796093022208 from small (Nat.zero_le 60) g3), Option.bind_some, List.nil_append, if_pos (small g3 g4), s0 hg, dues' _ (by omega) (by omega), Option.bind_some, if_pos rfl, Option.bind_some]
    rw [if_pos (show ([] : List S32).length + E.length < 8796093022208 from small (Nat.zero_le 60) g1), Option.bind_some, List.nil_append, if_pos (small g1 g2), s2 hg, dues' _ (by omega) (by omega), Option.bind_some, if_pos rfl, wakes' (by omega)]
    rfl
  · rw [good_false l ho (by omega) hg, Option.bind_some, if_neg (by decide), wakes' (by omega)]
    rfl
/-- The body behind the first test. -/
theorem body_told (l E F A B C : List S32) (lo hi : Int) (hl : l.length ≤ 60) (g1 : E.length ≤ 60) (g2 : F.length ≤ 60) (g3 : A.length ≤ 60) (g4 : C.length ≤ 60) (ho : Ok l) (o1 : Ok E) (o2 : Ok F) (d1 : Gd l → Gd E) (d2 : Gd l → Gd F) (s0 : Gd l → A ++ C = E) (s2 : Gd l → E ++ F = l)
    (n1 : E.length + F.length = l.length) (n2 : A.length + C.length = E.length) (q1 : PAll.plan_Split.f 200 l lo = some (A, B)) (q2 : PAll.plan_Split.f 200 B hi = some (C, F)) (q3 : PAll.plan_Split.f 200 l hi = some (E, F)) :
    ((PAll.plan_Split.f 200 l lo).bind fun bt144 => ((PAll.plan_Split.f 200 bt144.2 hi).bind fun bt150 => ((PAll.plan_Split.f 200 l hi).bind fun bt156 => (if (wrap64 ((bt144.1.length : Int) + (bt150.1.length : Int))) = (bt156.1.length : Int) then ((PAll.remontoirkeep_Dues.f 200 bt150.2 bt156.2).bind fun t162 => (if t162 = true then (remontoirlaw07_PlanSplits.j0 200 l bt144.1 bt150.1 bt156.1 bt156.2 ((wrap64 ((bt156.1.length : Int) + (bt156.2.length : Int))) != (l.length : Int))) else (remontoirlaw07_PlanSplits.j0 200 l bt144.1 bt150.1 bt156.1 bt156.2 true))) else (remontoirlaw07_PlanSplits.j0 200 l bt144.1 bt150.1 bt156.1 bt156.2 true))))) = some true := by
  rw [q1, Option.bind_some, q2, Option.bind_some, q3, Option.bind_some, if_pos (wsum n2 g1), dues' F (by omega) (by omega), Option.bind_some, if_pos rfl, wsum' n1 hl]
  exact j0_told l E F A C hl g1 g2 g3 g4 ho o1 o2 d1 d2 s0 s2
theorem splits_told (l : List S32) (ho : Ok l) (a b : Int) : remontoirlaw07_PlanSplits.f 200 l a b = some true := by
  unfold remontoirlaw07_PlanSplits.f
  by_cases h : (l.length : Int) > 60
  · rw [if_pos h, wakes' (by omega)]; rfl
  · rw [if_neg h]
    have hl : l.length ≤ 60 := by omega
    obtain ⟨lo, hlo⟩ : ∃ lo, mn a b = lo := ⟨_, rfl⟩
    obtain ⟨hi, hhi⟩ : ∃ hi, mx a b = hi := ⟨_, rfl⟩
    have hle : lo ≤ hi := by
      rw [← hlo, ← hhi]
      unfold mn mx
      split <;> split <;> omega
    rw [hlo, hhi]
    have b1 : (l.filter (gt lo)).length ≤ l.length := List.length_filter_le _ _
    have e1 : (l.filter (gt lo)).filter (gt hi) = l.filter (gt hi) := by
      rw [List.filter_filter]
      apply List.filter_congr
      intro x _
      by_cases h1 : x.f1 ≤ hi
      · simp [gt, h1]
      · have : ¬ x.f1 ≤ lo := by omega
        simp [gt, h1, this]
    have e2 : l.filter (le lo) = (l.filter (le hi)).filter (le lo) := by
      rw [List.filter_filter]
      apply List.filter_congr
      intro x _
      by_cases h1 : x.f1 ≤ lo
      · have : x.f1 ≤ hi := by omega
        simp [le, h1, this]
      · simp [le, h1]
    have e3 : (l.filter (gt lo)).filter (le hi) = (l.filter (le hi)).filter (gt lo) := by
      rw [List.filter_filter, List.filter_filter]
      apply List.filter_congr
      intro x _
      exact Bool.and_comm _ _
    have n1 := len_split l hi
    have n2 := len_split (l.filter (le hi)) lo
    rw [← e2] at n2
    have g1 : (l.filter (le hi)).length ≤ 60 := by omega
    have g2 : (l.filter (gt hi)).length ≤ 60 := by omega
    have g3 : (l.filter (le lo)).length ≤ 60 := by omega
    have g4 : ((l.filter (le hi)).filter (gt lo)).length ≤ 60 := by omega
    have s0 := fun hg : Gd l => filter_split _ lo (hg.filter (le hi)).2
    have s2 := fun hg : Gd l => filter_split l hi hg.2
    rw [← e2] at s0
    have o1 := ho.filter (le hi)
    have o2 := ho.filter (gt hi)
    have d1 := fun hg : Gd l => hg.filter (le hi)
    have d2 := fun hg : Gd l => hg.filter (gt hi)
    have q1 := split' l lo (by omega) (show l.length + 1 ≤ 200 by omega)
    have q2 := split' (l.filter (gt lo)) hi (by omega) (show (l.filter (gt lo)).length + 1 ≤ 200 by omega)
    have q3 := split' l hi (by omega) (show l.length + 1 ≤ 200 by omega)
    rw [e1, e3] at q2
    clear e1 e2 e3 b1
    generalize l.filter (le hi) = E at *
    generalize l.filter (gt hi) = F at *
    generalize l.filter (le lo) = A at *
    generalize E.filter (gt lo) = C at *
    generalize l.filter (gt lo) = B at *
    exact body_told l E F A B C lo hi hl g1 g2 g3 g4 ho o1 o2 d1 d2 s0 s2 n1 n2 q1 q2 q3
def two (ns : List Int) : S32 := ⟨ns.headD 0, ns.tail.headD 0⟩
end Go.Proofs.Ytboneknainlodaa.Core
namespace Go.Proofs.Ytboneknainlodaa.CallPlanSplits
open Go.RowKit Go.Proofs.Ytboneknainlodaa.PBase Go.Proofs.Ytboneknainlodaa.PAll Go.Proofs.Ytboneknainlodaa.Core Go.Proofs.Ytboneknainlodaa.Open Go.Proofs.YtboneknainlodaaW.PrintWords Go.Proofs.YtboneknainlodaaW.PrintLast
theorem two_K (W : World) (ns : List Int) (h : Fits [.i64, .u64] ns) : k32.K W (two ns) (ints [.i64, .u64] ns) := by
  obtain ⟨a, r, rfl, _, h⟩ := fits_cons h
  obtain ⟨b, r, rfl, _, h⟩ := fits_cons h
  obtain rfl := fits_nil h
  exact k32_mk W (two [a, b])
theorem two_ok {W : World} {A : Option Addr} {l : List (List Int)} (h : RowsOf W [.i64, .u64] A l) : Ok (l.map two) := by
  intro d hd
  obtain ⟨ns, hns, rfl⟩ := List.mem_map.1 hd
  obtain ⟨a, r, rfl, hw, _⟩ := fits_cons (h.2 ns hns)
  exact hw
set_option linter.unusedVariables false
theorem calls (W : World) (a0 : Option Addr) (c0 : Nat) (l0 : List (List Int)) (r0 : RowsOf W [.i64, .u64] a0 l0) (x0 : l0.length ≤ c0) (m0 : c0 ≤ maxLen) (y0 : l0.length * 16 ≤ 140737488351232) (a1 : Int) (w1 : (Lit.int .u64 a1).wf = true) (a2 : Int) (w2 : (Lit.int .u64 a2).wf = true) :
    Calls Try.prog 3 #[.slice a0 l0.length c0, .int .u64 a1, .int .u64 a2] W fun e w' => e = .returned (.bool true) ∧ Below W.heap.size W w' := by
  have h := remontoirlaw07_PlanSplits.calls 200 a0 c0 (l0.map two) a1 a2 true W (kd_rows (d := k32) two rfl (two_K W) r0 (by omega)) (by simpa using x0) (splits_told _ (two_ok r0) a1 a2) (Nat.zero_le _)
  rw [List.length_map] at h
  exact h
end Go.Proofs.Ytboneknainlodaa.CallPlanSplits
