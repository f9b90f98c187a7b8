/- PlanSorts: sorted, timers rise, are as many of each as they were, and stay sorted; they are a plan just if no number is there twice; then as a call. Conditions: the bounds that are given. -/
import Derived.Test.YtboneknainlodaaOps
import Derived.Test.YtboneknainlodaaPAllx5
import Derived.Test.YtboneknainlodaaOpenKd
import Derived.OpenShut
namespace Go.Proofs.Ytboneknainlodaa.Core
open Go.RowKit Go.Proofs.Ytboneknainlodaa.PBase Go.Proofs.Ytboneknainlodaa.PAll Go.Proofs.Ytboneknainlodaa.Giv Go.Proofs.YtboneknainlodaaW.PrintWords Go.Proofs.YtboneknainlodaaW.PrintLast
namespace Sorts
theorem wakes (k : Nat) : remontoirlaw07_wakes.f (k + 10) = some true := by
  induction k with
  | zero => exact wakes_10
  | succ k ih => exact remontoirlaw07_wakes.mono _ _ ih
theorem wakes' {k : Nat} (hk : 10 ≤ k) : remontoirlaw07_wakes.f k = some true := by
  have := wakes (k - 10)
  rwa [show k - 10 + 10 = k by omega] at this
theorem dues' (l : List S32) (hl : l.length ≤ 2000000) {k : Nat} (hk : l.length + 1 ≤ k) : PAll.remontoirkeep_Dues.f k l l = some true := by
  have := dues l hl (k - l.length - 1)
  rwa [show k - l.length - 1 + l.length + 1 = k by omega] at this
def eqb (x y : S32) : Bool := x.f0 == y.f0 && x.f1 == y.f1
def bump (c : Bool) (a : Int) : Int := if c = true then a + 1 else a
theorem w1 {a : Int} (h0 : 0 ≤ a) (h1 : a ≤ 1000) : wrap64 (a + 1) = a + 1 := by unfold wrap64; omega
theorem wd {i : Int} (h0 : 0 < i) (h1 : i ≤ 1000) : wrap64 (i - 1) = i - 1 := by unfold wrap64; omega
/-- One round of the inner loop. -/
theorem step (F : Nat) (l s : List S32) (x4 : Bool) (i m : Nat) (a b : Int) (hi : i < l.length) (hm : m < l.length) (hs : s.length = l.length) (hl : l.length ≤ 40) (a0 : 0 ≤ a) (a1 : a ≤ 100) (b0 : 0 ≤ b) (b1 : b ≤ 100) :
    remontoirlaw07_PlanSorts.l1 (F + 1) l s x4 (i : Int) a b (m : Int) = remontoirlaw07_PlanSorts.l1 F l s (x4 || (!decide (m = i) && l[m].f0 == l[i].f0)) (i : Int) (bump (eqb l[m] l[i]) a) (bump (eqb (s[m]'(by omega)) l[i]) b) ((m + 1 : Nat) : Int) := by
  have hms : m < s.length := by omega
  have wm : wrap64 ((m : Int) + 1) = ((m + 1 : Nat) : Int) := by rw [w1 (by omega) (by omega)]; rfl
  have hx : (if x4 = true then true else if (m : Int) = (i : Int) then false else (l[m].f0 == l[i].f0)) = (x4 || (!decide (m = i) && l[m].f0 == l[i].f0)) := by
    cases x4 with
    | true => rfl
    | false =>
      by_cases h : m = i
      · subst h; simp
      · rw [if_neg (by decide), if_neg (by omega), decide_eq_false h]; simp
  rw [← hx]
  rw [remontoirlaw07_PlanSorts.l1, if_pos (by omega), if_pos (by omega), if_pos (by omega), if_pos (by omega), rd_nat l m hm, rd_nat l i hi, rd_nat s m hms, wm, w1 a0 (by omega), w1 b0 (by omega)]
  have e1 : ((l[m].f0 == l[i].f0) && (l[m].f1 == l[i].f1)) = eqb l[m] l[i] := rfl
  have e2 : ((s[m].f0 == l[i].f0) && (s[m].f1 == l[i].f1)) = eqb s[m] l[i] := rfl
  rw [e1, e2]
  have hms' : (m : Int) < (s.length : Int) := by omega
  generalize ((m + 1 : Nat) : Int) = M
  generalize (l[m].f0 == l[i].f0) = c
  cases eqb l[m] l[i] <;> cases eqb s[m] l[i] <;> cases x4
  all_goals
    unfold bump
    by_cases h : (m : Int) = (i : Int)
    · simp only [if_pos h, if_pos hms', Bool.false_eq_true, if_false, if_true]
    · simp only [if_neg h, if_pos hms', Bool.false_eq_true, if_false, if_true]
/-- Is the i-th number there once more, among the first m? -/
def tw (l : List S32) (i : Nat) : Nat → Bool
  | 0 => false
  | m + 1 => tw l i m || (!decide (m = i) && (rd_T32 l m).f0 == (rd_T32 l i).f0)
def cn (d : S32) (l : List S32) (m : Nat) : Int := ((l.take m).countP (fun y => eqb y d) : Nat)
theorem cn_succ (d : S32) (l : List S32) (m : Nat) (h : m < l.length) : cn d l (m + 1) = bump (eqb l[m] d) (cn d l m) := by
  unfold cn bump
  rw [List.take_succ_eq_append_getElem h, List.countP_append, List.countP_cons, List.countP_nil]
  split <;> simp
theorem cn_le (d : S32) (l : List S32) (m : Nat) (h : l.length ≤ 40) : 0 ≤ cn d l m ∧ cn d l m ≤ 100 := by
  have h1 := List.countP_le_length (p := fun y => eqb y d) (l := l.take m)
  rw [List.length_take] at h1
  unfold cn
  omega
theorem inner (K : Nat) (l s : List S32) (i : Nat) (hi : i < l.length) (hs : s.length = l.length) (hl : l.length ≤ 40) (t0 : Bool) : ∀ (d m : Nat), l.length - m = d → m ≤ l.length →
    remontoirlaw07_PlanSorts.l1 (K + d + 1) l s (t0 || tw l i m) (i : Int) (cn l[i] l m) (cn l[i] s m) (m : Int) = remontoirlaw07_PlanSorts.l1 (K + 1) l s (t0 || tw l i l.length) (i : Int) (cn l[i] l l.length) (cn l[i] s l.length) (l.length : Int) := by
  intro d
  induction d with
  | zero =>
    intro m hm hml
    have : m = l.length := by omega
    subst this
    rfl
  | succ d ih =>
    intro m hm hml
    have hlt : m < l.length := by omega
    have c1 := cn_le l[i] l m hl
    have c2 := cn_le l[i] s m (by omega)
    rw [show K + (d + 1) + 1 = (K + d + 1) + 1 by omega, step (K + d + 1) l s _ i m _ _ hi hlt hs hl c1.1 c1.2 c2.1 c2.2, ← cn_succ l[i] l m hlt, ← cn_succ l[i] s m (by omega), ← ih (m + 1) (by omega) (by omega)]
    congr 1
    have e : tw l i (m + 1) = (tw l i m || (!decide (m = i) && l[m].f0 == l[i].f0)) := by
      rw [← rd_nat l m hlt, ← rd_nat l i hi]; rfl
    rw [e, Bool.or_assoc]
/-- Is any number there twice, seen from the first i? -/
def twc (l : List S32) : Nat → Bool
  | 0 => false
  | i + 1 => twc l i || tw l i l.length
theorem outer (l : List S32) (hl : l.length ≤ 40) (ho : Ok l) (hend : (gk (psort l) (psort l).length 0 == !twc l l.length) = true) : ∀ (d i : Nat), l.length - i = d → i ≤ l.length → ∀ K, remontoirlaw07_PlanSorts.l0 (K + 50 * d + 20) l (psort l) (twc l i) (i : Int) = some true := by
  have hs : (psort l).length = l.length := psort_len l
  intro d
  induction d with
  | zero =>
    intro i hd hi K
    have : i = l.length := by omega
    subst this
    rw [show K + 50 * 0 + 20 = (K + 19) + 1 by omega, remontoirlaw07_PlanSorts.l0, if_neg (by omega), good _ (psort_ok ho) (by omega), Option.bind_some, if_pos hend, wakes' (by omega)]
    rfl
  | succ d ih =>
    intro i hd hi K
    have hlt : i < l.length := by omega
    have hcn : cn l[i] l l.length = cn l[i] (psort l) l.length := by
      unfold cn
      rw [List.take_length, ← hs, List.take_length, ((psort_perm l).symm).countP_eq]
    have h := inner (K + (48 - l.length) + 50 * d + 20) l (psort l) i hlt hs hl (twc l i) l.length 0 (by omega) (Nat.zero_le _)
    rw [show K + (48 - l.length) + 50 * d + 20 + l.length + 1 = K + 50 * d + 69 by omega] at h
    have z1 : cn l[i] l 0 = 0 := rfl
    have z2 : cn l[i] (psort l) 0 = 0 := rfl
    have z3 : tw l i 0 = false := rfl
    rw [z1, z2, z3, Bool.or_false, show K + (48 - l.length) + 50 * d + 20 + 1 = (K + (48 - l.length) + 50 * d + 20) + 1 by omega] at h
    have e : (twc l i || tw l i l.length) = twc l (i + 1) := rfl
    rw [e] at h
    have ih' := ih (i + 1) (by omega) (by omega) (K + (48 - l.length))
    have wi1 : wrap64 ((i : Int) + 1) = ((i + 1 : Nat) : Int) := by rw [w1 (by omega) (by omega)]; rfl
    have hlast : remontoirlaw07_PlanSorts.l1 (K + (48 - l.length) + 50 * d + 20 + 1) l (psort l) (twc l (i + 1)) (i : Int) (cn l[i] l l.length) (cn l[i] (psort l) l.length) (l.length : Int) = some true := by
      rw [remontoirlaw07_PlanSorts.l1, if_neg (by omega), if_pos hcn, wi1]
      by_cases h0 : 0 < i
      · have e1 : wrap64 ((i : Int) - 1) = ((i - 1 : Nat) : Int) := by rw [wd (by omega) (by omega)]; omega
        have hso := List.pairwise_iff_getElem.1 (psort_so l) (i - 1) i (by omega) (by omega) (by omega)
        rw [if_pos (by omega), e1, if_pos (by omega), if_pos (by omega), if_pos (by omega), if_pos (by omega), rd_nat (psort l) i (by omega), rd_nat (psort l) (i - 1) (by omega), less_is, hso, Option.bind_some, if_neg (by decide)]
        exact ih'
      · rw [if_neg (by omega)]
        exact ih'
    rw [hlast] at h
    rw [show K + 50 * (d + 1) + 20 = (K + 50 * d + 69) + 1 by omega, remontoirlaw07_PlanSorts.l0, if_pos (by omega)]
    exact h
theorem tw_iff (l : List S32) (i : Nat) (hi : i < l.length) : ∀ m, m ≤ l.length → (tw l i m = true ↔ ∃ j, ∃ (hj : j < l.length), j < m ∧ j ≠ i ∧ l[j].f0 = l[i].f0) := by
  intro m
  induction m with
  | zero => intro _; simp [tw]
  | succ m ih =>
    intro hm
    unfold tw
    rw [Bool.or_eq_true, ih (by omega), rd_nat l m (by omega), rd_nat l i hi, Bool.and_eq_true, Bool.not_eq_true', decide_eq_false_iff_not, beq_iff_eq]
    constructor
    · rintro (⟨j, hj, h1, h2, h3⟩ | ⟨h2, h3⟩)
      · exact ⟨j, hj, by omega, h2, h3⟩
      · exact ⟨m, by omega, by omega, h2, h3⟩
    · rintro ⟨j, hj, h1, h2, h3⟩
      rcases Nat.lt_or_ge j m with h | h
      · exact .inl ⟨j, hj, h, h2, h3⟩
      · have : j = m := by omega
        subst this
        exact .inr ⟨h2, h3⟩
theorem twc_iff (l : List S32) : ∀ n, n ≤ l.length → (twc l n = true ↔ ∃ i j, ∃ (hi : i < l.length) (hj : j < l.length), i < n ∧ j ≠ i ∧ l[j].f0 = l[i].f0) := by
  intro n
  induction n with
  | zero => intro _; simp [twc]
  | succ n ih =>
    intro hn
    unfold twc
    rw [Bool.or_eq_true, ih (by omega), tw_iff l n (by omega) l.length (Nat.le_refl _)]
    constructor
    · rintro (⟨i, j, hi, hj, h1, h2, h3⟩ | ⟨j, hj, h1, h2, h3⟩)
      · exact ⟨i, j, hi, hj, by omega, h2, h3⟩
      · exact ⟨n, j, by omega, hj, by omega, h2, h3⟩
    · rintro ⟨i, j, hi, hj, h1, h2, h3⟩
      rcases Nat.lt_or_ge i n with h | h
      · exact .inl ⟨i, j, hi, hj, h, h2, h3⟩
      · have : i = n := by omega
        subst this
        exact .inr ⟨j, hj, hj, h2, h3⟩
theorem twc_nodup (l : List S32) : twc l l.length = true ↔ ¬ (ids l).Nodup := by
  rw [twc_iff l l.length (Nat.le_refl _), List.nodup_iff_pairwise_ne, List.pairwise_iff_getElem]
  constructor
  · rintro ⟨i, j, hi, hj, _, h2, h3⟩ h
    have li : i < (ids l).length := by simpa [ids] using hi
    have lj : j < (ids l).length := by simpa [ids] using hj
    have gi : (ids l)[i] = l[i].f0 := by simp [ids]
    have gj : (ids l)[j] = l[j].f0 := by simp [ids]
    rcases Nat.lt_or_ge i j with hij | hij
    · exact h i j li lj hij (by rw [gi, gj, h3])
    · exact h j i lj li (by omega) (by rw [gi, gj, h3])
  · intro h
    refine Classical.byContradiction fun hn => h ?_
    intro i j hi hj hij e
    have li : i < l.length := by simpa [ids] using hi
    have lj : j < l.length := by simpa [ids] using hj
    exact hn ⟨i, j, li, lj, li, by omega, by simpa [ids] using e.symm⟩
theorem ends (l : List S32) : (gk (psort l) (psort l).length 0 == !twc l l.length) = true := by
  have h1 : gk (psort l) (psort l).length 0 = true ↔ (ids l).Nodup := by
    rw [gk_gd, gd_iff]
    exact ⟨fun h => ((psort_perm l).map _).nodup_iff.1 h.1, fun h => ⟨((psort_perm l).map _).nodup_iff.2 h, psort_so l⟩⟩
  have h2 := twc_nodup l
  cases hg : gk (psort l) (psort l).length 0 with
  | true =>
    have := h1.1 hg
    cases ht : twc l l.length with
    | true => exact absurd this (h2.1 ht)
    | false => rfl
  | false =>
    have hn : ¬ (ids l).Nodup := fun h => by rw [h1.2 h] at hg; cases hg
    rw [h2.2 hn]
    rfl
theorem told (l : List S32) (ho : Ok l) : remontoirlaw07_PlanSorts.f 3000 l = some true := by
  unfold remontoirlaw07_PlanSorts.f
  by_cases h : (l.length : Int) > 40
  · rw [if_pos h, wakes' (by omega)]; rfl
  · rw [if_neg h]
    have hl : l.length ≤ 40 := by omega
    have n1 := psort_len l
    have e : psort (psort l) = psort l := psort_of (psort_so l) (List.Perm.refl _)
    have o := outer l hl ho (ends l) l.length 0 (by omega) (Nat.zero_le _) (2979 - 50 * l.length)
    rw [show 2979 - 50 * l.length + 50 * l.length + 20 = 2999 by omega] at o
    rw [sort_yes (by omega), Option.bind_some, if_pos (by omega), sort_yes (by omega), Option.bind_some, e, dues' _ (by omega) (by omega), Option.bind_some, show (3000 : Nat) = 2999 + 1 from rfl, remontoirlaw07_PlanSorts.j0, if_neg (by decide)]
    exact o
def two (ns : List Int) : S32 := ⟨ns.headD 0, ns.tail.headD 0⟩
end Sorts
end Go.Proofs.Ytboneknainlodaa.Core
namespace Go.Proofs.Ytboneknainlodaa.CallPlanSorts
open Go.RowKit Go.Proofs.Ytboneknainlodaa.PBase Go.Proofs.Ytboneknainlodaa.PAll Go.Proofs.Ytboneknainlodaa.Core Go.Proofs.Ytboneknainlodaa.Open Go.Proofs.YtboneknainlodaaW.PrintWords Go.Proofs.YtboneknainlodaaW.PrintLast
theorem two_K (W : World) (ns : List Int) (h : Fits [.i64, .u64] ns) : k32.K W (Sorts.two ns) (ints [.i64, .u64] ns) := by
  obtain ⟨a, r, rfl, _, h⟩ := fits_cons h
  obtain ⟨b, r, rfl, _, h⟩ := fits_cons h
  obtain rfl := fits_nil h
  exact k32_mk W (Sorts.two [a, b])
theorem two_ok {W : World} {A : Option Addr} {l : List (List Int)} (h : RowsOf W [.i64, .u64] A l) : Ok (l.map Sorts.two) := by
  intro d hd
  obtain ⟨ns, hns, rfl⟩ := List.mem_map.1 hd
  obtain ⟨a, r, rfl, hw, _⟩ := fits_cons (h.2 ns hns)
  exact hw
set_option linter.unusedVariables false
theorem calls (W : World) (a0 : Option Addr) (c0 : Nat) (l0 : List (List Int)) (r0 : RowsOf W [.i64, .u64] a0 l0) (x0 : l0.length ≤ c0) (m0 : c0 ≤ maxLen) (y0 : l0.length * 16 ≤ 140737488351232) :
    Calls Try.prog 4 #[.slice a0 l0.length c0] W fun e w' => e = .returned (.bool true) ∧ Below W.heap.size W w' := by
  have h := remontoirlaw07_PlanSorts.calls 3000 a0 c0 (l0.map Sorts.two) true W (kd_rows (d := k32) Sorts.two rfl (two_K W) r0 (by omega)) (by simpa using x0) (Sorts.told _ (two_ok r0)) (Nat.zero_le _)
  rw [List.length_map] at h
  exact h
end Go.Proofs.Ytboneknainlodaa.CallPlanSorts
