/- What plan's printed functions come to: Split filters, Dues of equal lists, Good's meaning, the chapter's examples. Conditions: lists that fit. -/
import Derived.Test.YtboneknainlodaaPAllx3
namespace Go.Proofs.Ytboneknainlodaa.Core
open Go.RowKit Go.Proofs.Ytboneknainlodaa.PBase Go.Proofs.Ytboneknainlodaa.PAll Go.Proofs.Ytboneknainlodaa.Giv Go.Proofs.YtboneknainlodaaW.PrintWords Go.Proofs.YtboneknainlodaaW.PrintLast
theorem wakes_10 : remontoirlaw07_wakes.f 10 = some true := by decide +kernel
theorem wi {i : Int} {n : Nat} (h0 : 0 ≤ i) (h1 : i < n) (hn : n ≤ 2000000) : wrap64 (i + 1) = i + 1 := by unfold wrap64; omega
theorem rd_nat (l : List S32) (i : Nat) (h : i < l.length) : rd_T32 l (i : Int) = l[i] := by
  unfold rd_T32
  rw [Int.toNat_natCast, List.getD_eq_getElem?_getD, List.getElem?_eq_getElem h]
  rfl
theorem eta (x : S32) : (⟨x.f0, x.f1⟩ : S32) = x := rfl
theorem dues_from (l : List S32) (hl : l.length ≤ 2000000) : ∀ (d : Nat) (i : Nat), l.length - i = d → i ≤ l.length → ∀ k, PAll.remontoirkeep_Dues.l0 (k + d + 1) l l (i : Int) = some true := by
  intro d
  induction d with
  | zero =>
    intro i hd hi k
    rw [PAll.remontoirkeep_Dues.l0, if_neg (by omega)]
  | succ d ih =>
    intro i hd hi k
    rw [show k + (d + 1) + 1 = (k + d + 1) + 1 by omega, PAll.remontoirkeep_Dues.l0, if_pos (by omega), if_pos (by omega), if_pos (by omega), if_neg (by simp), wi (n := l.length) (by omega) (by omega) hl]
    have := ih (i + 1) (by omega) (by omega) k
    exact this
theorem dues (l : List S32) (hl : l.length ≤ 2000000) (k : Nat) : PAll.remontoirkeep_Dues.f (k + l.length + 1) l l = some true := by
  unfold PAll.remontoirkeep_Dues.f
  rw [if_pos rfl]
  exact dues_from l hl l.length 0 (by omega) (Nat.zero_le _) k
/-- At or before x. -/
def le (x : Int) (d : S32) : Bool := decide (d.f1 ≤ x)
def gt (x : Int) (d : S32) : Bool := !decide (d.f1 ≤ x)
theorem split_from (l : List S32) (a : Int) (hl : l.length ≤ 2000000) : ∀ (d : Nat) (i : Nat) (x y : List S32), l.length - i = d → i ≤ l.length → x.length + y.length ≤ i → ∀ k, PAll.plan_Split.l0 (k + d + 1) a x y l (l.length : Int) (i : Int) = some (x ++ (l.drop i).filter (le a), y ++ (l.drop i).filter (gt a)) := by
  intro d
  induction d with
  | zero =>
    intro i x y hd hi hxy k
    rw [PAll.plan_Split.l0, if_neg (by omega), List.drop_eq_nil_of_le (by omega)]
    simp
  | succ d ih =>
    intro i x y hd hi hxy k
    have hlt : i < l.length := by omega
    rw [show k + (d + 1) + 1 = (k + d + 1) + 1 by omega, PAll.plan_Split.l0, if_pos (by omega), if_pos (by omega), if_pos (by omega), List.drop_eq_getElem_cons hlt, rd_nat l i hlt, wi (n := l.length) (by omega) (by omega) hl]
    by_cases hc : l[i].f1 ≤ a
    · rw [if_pos hc, if_pos (by omega)]
      have := ih (i + 1) (x ++ [l[i]]) y (by omega) (by omega) (by simp; omega) k
      rw [List.filter_cons_of_pos (by simp [le, hc]), List.filter_cons_of_neg (by simp [gt, hc])]
      simpa using this
    · rw [if_neg hc, if_pos (by omega)]
      have := ih (i + 1) x (y ++ [l[i]]) (by omega) (by omega) (by simp; omega) k
      rw [List.filter_cons_of_neg (by simp [le, hc]), List.filter_cons_of_pos (by simp [gt]; omega)]
      simpa using this
theorem split (l : List S32) (a : Int) (hl : l.length ≤ 2000000) (k : Nat) : PAll.plan_Split.f (k + l.length + 1) l a = some (l.filter (le a), l.filter (gt a)) := by
  unfold PAll.plan_Split.f
  exact split_from l a hl l.length 0 [] [] (by omega) (Nat.zero_le _) (Nat.zero_le _) k
/-- The numbers fit. -/
def Ok (l : List S32) : Prop := ∀ d ∈ l, (Lit.int .i64 d.f0).wf = true
/-- A plan. -/
def Gd (l : List S32) : Prop := (l.map (·.f0)).Nodup ∧ l.Pairwise (fun a b => lt a b = true)
theorem lt_iff (a b : S32) : lt a b = true ↔ a.f1 < b.f1 ∨ (a.f1 = b.f1 ∧ a.f0 < b.f0) := by unfold lt; simp
theorem gk_iff (l : List S32) : ∀ (d : Nat) (i : Nat), l.length - i = d → i ≤ l.length → (gk l d i = true ↔ ∀ j, i ≤ j → (hj : j < l.length) → ¬ l[j].f0 ∈ ((l.take j).map (·.f0)) ∧ (0 < j → lt (rd_T32 l ((j : Int) - 1)) l[j] = true)) := by
  intro d
  induction d with
  | zero =>
    intro i hd hi
    simp only [gk, true_iff]
    intro j h1 h2
    omega
  | succ d ih =>
    intro i hd hi
    have hlt : i < l.length := by omega
    rw [gk, rd_nat l i hlt]
    have step := ih (i + 1) (by omega) (by omega)
    by_cases h1 : ((l.take i).map (·.f0)).contains l[i].f0 = true
    · rw [if_pos h1]
      simp only [Bool.false_eq_true, false_iff]
      intro h
      exact (h i (Nat.le_refl _) hlt).1 (by simpa using h1)
    · rw [if_neg h1]
      by_cases h2 : i > 0 ∧ lt (rd_T32 l ((i : Int) - 1)) l[i] = false
      · rw [if_pos h2]
        simp only [Bool.false_eq_true, false_iff]
        intro h
        have := (h i (Nat.le_refl _) hlt).2 h2.1
        rw [h2.2] at this
        cases this
      · rw [if_neg h2, step]
        constructor
        · intro h j hij hj
          rcases Nat.eq_or_lt_of_le hij with e | e
          · subst e
            refine ⟨fun hm => h1 (by simpa using hm), fun h0 => ?_⟩
            cases hl : lt (rd_T32 l ((i : Int) - 1)) l[i] with
            | true => rfl
            | false => exact absurd ⟨h0, hl⟩ h2
          · exact h j e hj
        · intro h j hij hj
          exact h j (by omega) hj
theorem gk_gd (l : List S32) : gk l l.length 0 = true ↔ Gd l := by
  rw [gk_iff l l.length 0 (by omega) (Nat.zero_le _)]
  constructor
  · intro h
    constructor
    · rw [List.nodup_iff_pairwise_ne, List.pairwise_iff_getElem]
      intro i j hi hj hij
      simp only [List.length_map] at hi hj
      have := (h j (Nat.zero_le _) hj).1
      intro e
      apply this
      rw [List.mem_map]
      refine ⟨l[i], ?_, by simpa using e⟩
      rw [List.mem_take_iff_getElem]
      exact ⟨i, by omega, rfl⟩
    · rw [List.pairwise_iff_getElem]
      intro i j hi hj hij
      obtain ⟨m, rfl⟩ : ∃ m, j = i + 1 + m := ⟨j - (i + 1), by omega⟩
      induction m with
      | zero =>
        have := (h (i + 1) (Nat.zero_le _) hj).2 (by omega)
        rw [show (((i + 1 : Nat) : Int) - 1) = (i : Int) by omega, rd_nat l i hi] at this
        exact this
      | succ m ih =>
        have h1 := ih (by omega) (by omega)
        have := (h (i + 1 + (m + 1)) (Nat.zero_le _) hj).2 (by omega)
        rw [show (((i + 1 + (m + 1) : Nat) : Int) - 1) = ((i + 1 + m : Nat) : Int) by omega, rd_nat l (i + 1 + m) (by omega)] at this
        rw [lt_iff] at *
        omega
  · rintro ⟨h1, h2⟩ j _ hj
    rw [List.nodup_iff_pairwise_ne, List.pairwise_iff_getElem] at h1
    rw [List.pairwise_iff_getElem] at h2
    constructor
    · intro hm
      rw [List.mem_map] at hm
      obtain ⟨d, hd, e⟩ := hm
      rw [List.mem_take_iff_getElem] at hd
      obtain ⟨i, hi, rfl⟩ := hd
      exact h1 i j (by simp; omega) (by simpa using hj) (by omega) (by simpa using e)
    · intro h0
      rw [show ((j : Int) - 1) = ((j - 1 : Nat) : Int) by omega, rd_nat l (j - 1) (by omega)]
      exact h2 (j - 1) j (by omega) hj (by omega)
theorem good (l : List S32) (ho : Ok l) (hl : l.length ≤ 2000000) : plan_Good.f l = some (gk l l.length 0) := by
  unfold plan_Good.f
  rw [if_pos (List.all_eq_true.2 ho), if_pos (by unfold maxLen; omega)]
theorem good_true (l : List S32) (ho : Ok l) (hl : l.length ≤ 2000000) (hg : Gd l) : plan_Good.f l = some true := by
  rw [good l ho hl, (gk_gd l).2 hg]
theorem good_false (l : List S32) (ho : Ok l) (hl : l.length ≤ 2000000) (hg : ¬ Gd l) : plan_Good.f l = some false := by
  rw [good l ho hl]
  congr 1
  cases h : gk l l.length 0 with
  | true => exact absurd ((gk_gd l).1 h) hg
  | false => rfl
end Go.Proofs.Ytboneknainlodaa.Core
