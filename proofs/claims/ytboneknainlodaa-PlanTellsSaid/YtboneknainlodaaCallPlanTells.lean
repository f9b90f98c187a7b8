/- PlanTells: of any timers plan's functions answer what the document says; then as a call. Conditions: the bounds that are given. -/
import Derived.Test.YtboneknainlodaaOps
import Derived.Test.YtboneknainlodaaPAllx9
import Derived.Test.YtboneknainlodaaOpenKd
import Derived.OpenShut
namespace Go.Proofs.Ytboneknainlodaa.Core
open Go.RowKit Go.Proofs.Ytboneknainlodaa.PBase Go.Proofs.Ytboneknainlodaa.PAll Go.Proofs.Ytboneknainlodaa.Giv Go.Proofs.YtboneknainlodaaW.PrintWords Go.Proofs.YtboneknainlodaaW.PrintLast
namespace Tells
theorem wakes (k : Nat) : remontoirlaw07_wakes.f (k + 10) = some true := by
  induction k with
  | zero => exact wakes_10
  | succ k ih => exact remontoirlaw07_wakes.mono _ _ ih
theorem wakes' {k : Nat} (hk : 10 ≤ k) : remontoirlaw07_wakes.f k = some true := by
  have := wakes (k - 10)
  rwa [show k - 10 + 10 = k by omega] at this
theorem dues' (l : List S32) (hl : l.length ≤ 2000000) {k : Nat} (hk : l.length + 1 ≤ k) : PAll.remontoirkeep_Dues.f k l l = some true := by
  have := dues l hl (k - l.length - 1)
  rwa [show k - l.length - 1 + l.length + 1 = k by omega] at this
theorem split' (l : List S32) (a : Int) (hl : l.length ≤ 2000000) {k : Nat} (hk : l.length + 1 ≤ k) : PAll.plan_Split.f k l a = some (l.filter (le a), l.filter (gt a)) := by
  have := split l a hl (k - l.length - 1)
  rwa [show k - l.length - 1 + l.length + 1 = k by omega] at this
theorem less_is' (a b : S32) : PBase.remontoirref05_Less.f a.f0 a.f1 b.f0 b.f1 = some (lt a b) := less_is a b
theorem wd {i : Int} (h0 : 0 < i) (h1 : i ≤ 2000000) : wrap64 (i - 1) = i - 1 := by unfold wrap64; omega
/-- The inner search for an equal number. -/
theorem rgood_in (l : List S32) (i : Nat) (hi : i < l.length) (hl : l.length ≤ 60) (K : Nat) : ∀ (c m : Nat), i - m = c → m ≤ i → PAll.remontoirref07_Good.l1 (K + c + 1) l (i : Int) (m : Int) = if (((l.take i).drop m).map (·.f0)).contains l[i].f0 = true then some false else PAll.remontoirref07_Good.l0 K l ((i + 1 : Nat) : Int) := by
  intro c
  induction c with
  | zero =>
    intro m hm hmi
    have : m = i := by omega
    subst this
    rw [PAll.remontoirref07_Good.l1, if_neg (by omega), wi (n := l.length) (by omega) (by omega) (by omega), List.drop_eq_nil_of_le (by simp; omega), if_neg (by simp)]
    rfl
  | succ c ih =>
    intro m hm hmi
    have hlt : m < i := by omega
    have e : ((l.take i).drop m) = l[m] :: ((l.take i).drop (m + 1)) := by
      rw [List.drop_eq_getElem_cons (by simp; omega), List.getElem_take]
    rw [show K + (c + 1) + 1 = (K + c + 1) + 1 by omega, PAll.remontoirref07_Good.l1, if_pos (by omega), if_pos (by omega), if_pos (by omega), if_pos (by omega), if_pos (by omega), rd_nat l m (by omega), rd_nat l i hi, wi (n := l.length) (by omega) (by omega) (by omega), e]
    have h := ih (m + 1) (by omega) (by omega)
    by_cases hc : l[m].f0 = l[i].f0
    · rw [if_pos hc, if_pos (by rw [List.map_cons, hc]; simp)]
    · rw [if_neg hc]
      refine (show _ = _ from h).trans ?_
      rw [List.map_cons, List.contains_cons, beq_eq_false_iff_ne.2 (fun e => hc e.symm), Bool.false_or]
theorem rgood_from (l : List S32) (hl : l.length ≤ 60) : ∀ (d i : Nat), l.length - i = d → i ≤ l.length → ∀ K, PAll.remontoirref07_Good.l0 (K + 70 * d + 1) l (i : Int) = some (gk l d i) := by
  intro d
  induction d with
  | zero =>
    intro i hd hi K
    rw [PAll.remontoirref07_Good.l0, if_neg (by omega)]
    rfl
  | succ d ih =>
    intro i hd hi K
    have hlt : i < l.length := by omega
    have hin := rgood_in l i hlt hl (K + (67 - i) + 70 * d + 1) i 0 (by omega) (Nat.zero_le _)
    rw [show K + (67 - i) + 70 * d + 1 + i + 1 = K + 70 * d + 69 by omega, ih (i + 1) (by omega) (by omega) (K + (67 - i)), List.drop_zero] at hin
    have hin' : PAll.remontoirref07_Good.l1 (K + 70 * d + 69) l (i : Int) 0 = if ((l.take i).map (·.f0)).contains l[i].f0 = true then some false else some (gk l d (i + 1)) := hin
    have hj0 : PAll.remontoirref07_Good.j1 (K + 70 * d + 70) l (i : Int) false = if ((l.take i).map (·.f0)).contains l[i].f0 = true then some false else some (gk l d (i + 1)) := by
      rw [show K + 70 * d + 70 = (K + 70 * d + 69) + 1 by omega, PAll.remontoirref07_Good.j1, if_neg (by decide)]
      exact hin'
    have hj1 : PAll.remontoirref07_Good.j1 (K + 70 * d + 70) l (i : Int) true = some false := by
      rw [show K + 70 * d + 70 = (K + 70 * d + 69) + 1 by omega, PAll.remontoirref07_Good.j1, if_pos rfl]
    rw [show K + 70 * (d + 1) + 1 = (K + 70 * d + 70) + 1 by omega, PAll.remontoirref07_Good.l0, if_pos (by omega), gk, rd_nat l i hlt]
    by_cases h0 : 0 < i
    · have e1 : wrap64 ((i : Int) - 1) = ((i - 1 : Nat) : Int) := by rw [wd (by omega) (by omega)]; omega
      have e2 : ((i : Int) - 1) = ((i - 1 : Nat) : Int) := by omega
      rw [if_pos (by omega), e1, if_pos (by omega), if_pos (by omega), if_pos (by omega), e2, rd_nat l (i - 1) (by omega), less_is', Option.bind_some]
      cases hlt2 : lt l[i - 1] l[i] with
      | true =>
        rw [show (!true) = false from rfl, hj0]
        by_cases hc : ((l.take i).map (·.f0)).contains l[i].f0 = true
        · rw [if_pos hc, if_pos hc]
        · rw [if_neg hc, if_neg hc, if_neg (by rintro ⟨_, h⟩; cases h)]
      | false =>
        rw [show (!false) = true from rfl, hj1]
        by_cases hc : ((l.take i).map (·.f0)).contains l[i].f0 = true
        · rw [if_pos hc]
        · rw [if_neg hc, if_pos ⟨h0, rfl⟩]
    · rw [if_neg (by omega), hj0]
      by_cases hc : ((l.take i).map (·.f0)).contains l[i].f0 = true
      · rw [if_pos hc, if_pos hc]
      · rw [if_neg hc, if_neg hc, if_neg (by rintro ⟨h, _⟩; exact h0 h)]
theorem rgood (l : List S32) (hl : l.length ≤ 60) {k : Nat} (hk : 4300 ≤ k) : PAll.remontoirref07_Good.f k l = some (gk l l.length 0) := by
  have := rgood_from l hl l.length 0 (by omega) (Nat.zero_le _) (k - 70 * l.length - 1)
  rw [show k - 70 * l.length - 1 + 70 * l.length + 1 = k by omega] at this
  exact this
theorem find_from (l : List S32) (id : Int) (hl : l.length ≤ 2000000) : ∀ (d i : Nat), l.length - i = d → i ≤ l.length → ∀ k, PAll.remontoirref07_find.l0 (k + d + 1) l id (i : Int) = some (Lib.idxByFrom (fun _ y : S32 => y.f0 == id) default (l.drop i) i) := by
  intro d
  induction d with
  | zero =>
    intro i hd hi k
    rw [PAll.remontoirref07_find.l0, if_neg (by omega), List.drop_eq_nil_of_le (by omega)]
    rfl
  | succ d ih =>
    intro i hd hi k
    have hlt : i < l.length := by omega
    rw [show k + (d + 1) + 1 = (k + d + 1) + 1 by omega, PAll.remontoirref07_find.l0, if_pos (by omega), if_pos (by omega), rd_nat l i hlt, wi (n := l.length) (by omega) (by omega) hl, List.drop_eq_getElem_cons hlt]
    unfold Lib.idxByFrom
    by_cases hc : l[i].f0 = id
    · rw [if_pos hc, if_pos (by simpa using hc)]
    · rw [if_neg hc, if_neg (by simpa using hc)]
      exact ih (i + 1) (by omega) (by omega) k
theorem find (l : List S32) (id : Int) (hl : l.length ≤ 2000000) {k : Nat} (hk : l.length + 1 ≤ k) : PAll.remontoirref07_find.f k l id = some (idx l id) := by
  have := find_from l id hl l.length 0 (by omega) (Nat.zero_le _) (k - l.length - 1)
  rw [show k - l.length - 1 + l.length + 1 = k by omega] at this
  exact this
theorem rsplit_from (l : List S32) (a : Int) (hl : l.length ≤ 2000000) : ∀ (d i : Nat) (x y : List S32), l.length - i = d → i ≤ l.length → x.length + y.length ≤ i → ∀ k, PAll.remontoirref07_Split.l0 (k + d + 1) l a (i : Int) x y = some (x ++ (l.drop i).filter (le a), y ++ (l.drop i).filter (gt a)) := by
  intro d
  induction d with
  | zero =>
    intro i x y hd hi hxy k
    rw [PAll.remontoirref07_Split.l0, if_neg (by omega), List.drop_eq_nil_of_le (by omega)]
    simp
  | succ d ih =>
    intro i x y hd hi hxy k
    have hlt : i < l.length := by omega
    rw [show k + (d + 1) + 1 = (k + d + 1) + 1 by omega, PAll.remontoirref07_Split.l0, if_pos (by omega), if_pos (by omega), List.drop_eq_getElem_cons hlt, rd_nat l i hlt, wi (n := l.length) (by omega) (by omega) hl]
    by_cases hc : l[i].f1 ≤ a
    · rw [if_pos hc, if_pos (by omega)]
      have := ih (i + 1) (x ++ [l[i]]) y (by omega) (by omega) (by simp; omega) k
      rw [List.filter_cons_of_pos (by simp [le, hc]), List.filter_cons_of_neg (by simp [gt, hc])]
      simpa using this
    · rw [if_neg hc, if_pos (by omega)]
      have := ih (i + 1) x (y ++ [l[i]]) (by omega) (by omega) (by simp; omega) k
      rw [List.filter_cons_of_neg (by simp [le, hc]), List.filter_cons_of_pos (by simp [gt]; omega)]
      simpa using this
theorem rsplit (l : List S32) (a : Int) (hl : l.length ≤ 2000000) {k : Nat} (hk : l.length + 1 ≤ k) : PAll.remontoirref07_Split.f k l a = some (l.filter (le a), l.filter (gt a)) := by
  have := rsplit_from l a hl l.length 0 [] [] (by omega) (Nat.zero_le _) (Nat.zero_le _) (k - l.length - 1)
  rw [show k - l.length - 1 + l.length + 1 = k by omega] at this
  exact this
theorem big {n : Nat} (h : n ≤ 100) : n < 8796093022208 := by omega
theorem rins (l : List S32) (ho : Ok l) (hl : l.length ≤ 60) (i a : Int) : PAll.remontoirref07_Insert.f 5000 l i a = plan_Insert.f l i a := by
  unfold PAll.remontoirref07_Insert.f
  rw [rgood l hl (by omega), Option.bind_some]
  by_cases hg : Gd l
  · rw [(gk_gd l).2 hg, if_pos rfl, find l i (by omega) (by omega), Option.bind_some]
    by_cases hm : i ∈ ids l
    · have := (cancel_in hg.1 hm).1
      rw [if_pos this, ins_no ho (by omega) (.inr hm)]
    · have := cancel_out hm
      rw [if_neg (by omega), ins_yes ho (by omega) hg hm, Option.bind_some, if_pos (show ([] : List S32).length + l.length < 8796093022208 from big (by simp; omega)), Option.bind_some, List.nil_append, Option.bind_some,
        if_pos (show l.length + [(⟨i, a⟩ : S32)].length < 8796093022208 from big (by simp; omega)), rsort_yes (by simp; omega), Option.bind_some]
      have e : psort (l ++ [(⟨i, a⟩ : S32)]) = psort (⟨i, a⟩ :: l) := psort_congr (List.perm_middle (a := (⟨i, a⟩ : S32)) (l₁ := l) (l₂ := []) |>.trans (by rw [List.append_nil]))
      rw [e]
  · have : gk l l.length 0 = false := by
      cases h : gk l l.length 0 with
      | true => exact absurd ((gk_gd l).1 h) hg
      | false => rfl
    rw [this, if_neg (by decide), ins_no ho (by omega) (.inl hg)]
theorem rcan (l : List S32) (ho : Ok l) (hl : l.length ≤ 60) (i : Int) : PAll.remontoirref07_Cancel.f 5000 l i = plan_Cancel.f l i := by
  unfold PAll.remontoirref07_Cancel.f
  rw [find l i (by omega) (by omega), Option.bind_some, rgood l hl (by omega), Option.bind_some]
  by_cases hg : Gd l
  · rw [(gk_gd l).2 hg, if_pos rfl]
    by_cases hm : i ∈ ids l
    · obtain ⟨h0, h1⟩ := cancel_in hg.1 hm
      have h2 := idx_range l i
      rw [can_yes ho (by omega) hg hm, ← h1]
      unfold canf
      generalize idx l i = x at h0 h2 ⊢
      have hx : x < l.length := by omega
      have w : wrap64 (x + 1) = x + 1 := by unfold wrap64; omega
      have t1 : (l.take x.toNat).length ≤ 60 := by rw [List.length_take]; omega
      have t2 : (l.drop (x + 1).toNat).length ≤ 60 := by rw [List.length_drop]; omega
      have e : (x + 1).toNat = x.toNat + 1 := by omega
      rw [w, if_neg (by omega), Option.bind_some, if_pos h0, if_pos (by omega), Option.bind_some, if_pos (show ([] : List S32).length + (l.take x.toNat).length < 8796093022208 from big (by simp; omega)), Option.bind_some, List.nil_append, if_pos (by omega), if_pos (by omega), Option.bind_some, if_pos (sum t1 t2), e]
    · have := cancel_out hm
      rw [if_pos (by omega), can_no ho (by omega) (.inr hm)]
  · have : gk l l.length 0 = false := by
      cases h : gk l l.length 0 with
      | true => exact absurd ((gk_gd l).1 h) hg
      | false => rfl
    rw [this, if_neg (by decide), can_no ho (by omega) (.inl hg)]
where sum {a b : Nat} (h : a ≤ 60) (h' : b ≤ 60) : a + b < 8796093022208 := by omega
theorem ins_some (l : List S32) (ho : Ok l) (hl : l.length ≤ 60) (i a : Int) : ∃ X p, plan_Insert.f l i a = some (X, p) ∧ X.length ≤ 100 := by
  by_cases h : Gd l ∧ ¬ i ∈ ids l
  · exact ⟨_, _, ins_yes ho (by omega) h.1 h.2, by rw [psort_len]; simp; omega⟩
  · refine ⟨_, _, ins_no ho (by omega) ?_, Nat.zero_le _⟩
    by_cases hg : Gd l
    · exact .inr (Decidable.byContradiction fun hm => h ⟨hg, hm⟩)
    · exact .inl hg
theorem can_some (l : List S32) (ho : Ok l) (hl : l.length ≤ 60) (i : Int) : ∃ X p, plan_Cancel.f l i = some (X, p) ∧ X.length ≤ 100 := by
  by_cases h : Gd l ∧ i ∈ ids l
  · exact ⟨_, _, can_yes ho (by omega) h.1 h.2, Nat.le_trans (List.length_filter_le _ _) (by omega)⟩
  · refine ⟨_, _, can_no ho (by omega) ?_, Nat.zero_le _⟩
    by_cases hg : Gd l
    · exact .inr (fun hm => h ⟨hg, hm⟩)
    · exact .inl hg
theorem told (l : List S32) (ho : Ok l) (i a u : Int) : remontoirlaw07_PlanTells.f 5000 l i a u = some true := by
  unfold remontoirlaw07_PlanTells.f
  by_cases h : (l.length : Int) > 60
  · rw [if_pos h, wakes' (by omega)]; rfl
  · rw [if_neg h]
    have hl : l.length ≤ 60 := by omega
    obtain ⟨X, p, c1, n1⟩ := ins_some l ho hl i a
    obtain ⟨Y, q, c2, n2⟩ := can_some l ho hl i
    have b1 : (l.filter (le u)).length ≤ 100 := Nat.le_trans (List.length_filter_le _ _) (by omega)
    have b2 : (l.filter (gt u)).length ≤ 100 := Nat.le_trans (List.length_filter_le _ _) (by omega)
    have b3 : (psort l).length ≤ 100 := by rw [psort_len]; omega
    rw [rins l ho hl, rcan l ho hl, c1, Option.bind_some, c2, Option.bind_some, split' l u (by omega) (by omega), Option.bind_some, Option.bind_some, Option.bind_some, rsplit l u (by omega) (by omega), Option.bind_some, good l ho (by omega), Option.bind_some, rgood l hl (by omega), Option.bind_some]
    rw [if_pos (by simp), if_pos (by simp), dues' X (by omega) (by omega), Option.bind_some, if_pos rfl, if_pos (by simp), dues' Y (by omega) (by omega), Option.bind_some, if_pos rfl, dues' (l.filter (le u)) (by omega) (by omega), Option.bind_some, if_pos rfl, dues' (l.filter (gt u)) (by omega) (by omega), Option.bind_some, if_pos rfl,
      sort_yes (by omega), Option.bind_some, rsort_yes (by omega), Option.bind_some, dues' _ (by omega) (by omega), Option.bind_some, if_pos rfl, wakes' (by omega)]
    rfl
end Tells
def Tells.two (ns : List Int) : S32 := ⟨ns.headD 0, ns.tail.headD 0⟩
end Go.Proofs.Ytboneknainlodaa.Core
namespace Go.Proofs.Ytboneknainlodaa.CallPlanTells
open Go.RowKit Go.Proofs.Ytboneknainlodaa.PBase Go.Proofs.Ytboneknainlodaa.PAll Go.Proofs.Ytboneknainlodaa.Core Go.Proofs.Ytboneknainlodaa.Open Go.Proofs.YtboneknainlodaaW.PrintWords Go.Proofs.YtboneknainlodaaW.PrintLast
theorem two_K (W : World) (ns : List Int) (h : Fits [.i64, .u64] ns) : k32.K W (Tells.two ns) (ints [.i64, .u64] ns) := by
  obtain ⟨a, r, rfl, _, h⟩ := fits_cons h
  obtain ⟨b, r, rfl, _, h⟩ := fits_cons h
  obtain rfl := fits_nil h
  exact k32_mk W (Tells.two [a, b])
theorem two_ok {W : World} {A : Option Addr} {l : List (List Int)} (h : RowsOf W [.i64, .u64] A l) : Ok (l.map Tells.two) := by
  intro d hd
  obtain ⟨ns, hns, rfl⟩ := List.mem_map.1 hd
  obtain ⟨a, r, rfl, hw, _⟩ := fits_cons (h.2 ns hns)
  exact hw
set_option linter.unusedVariables false
theorem calls (W : World) (a0 : Option Addr) (c0 : Nat) (l0 : List (List Int)) (r0 : RowsOf W [.i64, .u64] a0 l0) (x0 : l0.length ≤ c0) (m0 : c0 ≤ maxLen) (y0 : l0.length * 16 ≤ 140737488351232) (a1_0 : Int) (w1_0 : (Lit.int .i64 a1_0).wf = true) (a1_1 : Int) (w1_1 : (Lit.int .u64 a1_1).wf = true) (a2 : Int) (w2 : (Lit.int .u64 a2).wf = true) :
    Calls Try.prog 5 #[.slice a0 l0.length c0, .agg #[.int .i64 a1_0, .int .u64 a1_1], .int .u64 a2] W fun e w' => e = .returned (.bool true) ∧ Below W.heap.size W w' := by
  have h := remontoirlaw07_PlanTells.calls 5000 a0 c0 (l0.map Tells.two) a1_0 a1_1 a2 true W (kd_rows (d := k32) Tells.two rfl (two_K W) r0 (by omega)) (by simpa using x0) (Tells.told _ (two_ok r0) a1_0 a1_1 a2) (Nat.zero_le _)
  rw [List.length_map] at h
  exact h
end Go.Proofs.Ytboneknainlodaa.CallPlanTells
