/- What Insert, Cancel and Sort answer on plans. Conditions: lists that fit. -/
import Derived.Test.YtboneknainlodaaSorted
namespace Go.Proofs.Ytboneknainlodaa.Core
open Go.RowKit Go.Proofs.Ytboneknainlodaa.PBase Go.Proofs.Ytboneknainlodaa.Giv
def ids (l : List S32) : List Int := l.map (·.f0)
def rm (l : List S32) (id : Int) : List S32 := l.filter (fun y => !(y.f0 == id))
theorem any_ids (l : List S32) (id : Int) : l.any (fun x => x.f0 == id) = true ↔ id ∈ ids l := by
  unfold ids
  rw [List.any_eq_true, List.mem_map]
  constructor
  · rintro ⟨x, h1, h2⟩; exact ⟨x, h1, by simpa using h2⟩
  · rintro ⟨x, h1, h2⟩; exact ⟨x, h1, by simpa using h2⟩
theorem any_false (l : List S32) (id : Int) (h : ¬ id ∈ ids l) : l.any (fun x => x.f0 == id) = false := by
  rw [← Bool.not_eq_true, any_ids]; exact h
theorem idx_in (id : Int) : ∀ (l : List S32), (ids l).Nodup → id ∈ ids l → ∀ i : Nat, ∃ p : Nat, p < l.length ∧ Lib.idxByFrom (fun _ y : S32 => y.f0 == id) default l i = ((i + p : Nat) : Int) ∧ l.take p ++ l.drop (p + 1) = rm l id := by
  intro l
  induction l with
  | nil => intro _ h; simp [ids] at h
  | cons y l ih =>
    intro hn hm i
    have hn' : ¬ y.f0 ∈ ids l ∧ (ids l).Nodup := by
      unfold ids at hn ⊢
      rw [List.map_cons, List.nodup_cons] at hn
      exact hn
    by_cases hy : y.f0 = id
    · refine ⟨0, by simp, by unfold Lib.idxByFrom; rw [if_pos (by simpa using hy)]; rfl, ?_⟩
      unfold rm
      rw [List.filter_cons_of_neg (by simp [hy])]
      simp only [List.take_zero, List.nil_append, Nat.zero_add, List.drop_succ_cons, List.drop_zero]
      rw [eq_comm, List.filter_eq_self]
      intro z hz
      have : z.f0 ≠ id := by
        rintro e
        apply hn'.1
        rw [hy, ← e]
        exact List.mem_map.2 ⟨z, hz, rfl⟩
      simpa using this
    · have hm' : id ∈ ids l := by
        unfold ids at hm ⊢
        rw [List.map_cons, List.mem_cons] at hm
        exact hm.resolve_left (fun h => hy h.symm)
      obtain ⟨p, h1, h2, h3⟩ := ih hn'.2 hm' (i + 1)
      refine ⟨p + 1, by simpa using h1, by unfold Lib.idxByFrom; rw [if_neg (by simpa using hy), h2]; omega, ?_⟩
      unfold rm at h3 ⊢
      rw [List.filter_cons_of_pos (by simpa using hy), ← h3]
      rfl
theorem idx_out (id : Int) : ∀ (l : List S32), ¬ id ∈ ids l → ∀ i : Nat, Lib.idxByFrom (fun _ y : S32 => y.f0 == id) default l i = -1 := by
  intro l
  induction l with
  | nil => intro _ i; rfl
  | cons y l ih =>
    intro h i
    unfold ids at h
    rw [List.map_cons, List.mem_cons, not_or] at h
    unfold Lib.idxByFrom
    rw [if_neg (by simpa using fun e => h.1 e.symm)]
    exact ih h.2 (i + 1)
theorem cancel_in {l : List S32} (hn : (ids l).Nodup) {id : Int} (h : id ∈ ids l) : 0 ≤ idx l id ∧ canf l id = rm l id := by
  obtain ⟨p, h1, h2, h3⟩ := idx_in id l hn h 0
  have : idx l id = (p : Int) := by unfold idx Lib.idxBy; rw [h2]; simp
  refine ⟨by omega, ?_⟩
  unfold canf
  rw [this, Int.toNat_natCast]
  exact h3
theorem cancel_out {l : List S32} {id : Int} (h : ¬ id ∈ ids l) : idx l id = -1 := idx_out id l h 0
theorem ins_yes {l : List S32} (ho : Ok l) (hl : l.length ≤ 1000000) (hg : Gd l) {i a : Int} (h : ¬ i ∈ ids l) : plan_Insert.f l i a = some (psort (⟨i, a⟩ :: l), true) := by
  unfold plan_Insert.f
  rw [if_pos hl, good_true l ho (by omega) hg, Option.map_some, any_false l i h, if_pos (by decide), insf_eq hg.so]
theorem ins_no {l : List S32} (ho : Ok l) (hl : l.length ≤ 1000000) {i a : Int} (h : ¬ Gd l ∨ i ∈ ids l) : plan_Insert.f l i a = some ([], false) := by
  unfold plan_Insert.f
  rw [if_pos hl, good l ho (by omega), Option.map_some, if_neg]
  intro hc
  rw [Bool.and_eq_true, Bool.not_eq_true'] at hc
  rcases h with h | h
  · exact h ((gk_gd l).1 hc.1)
  · rw [(any_ids l i).2 h] at hc
    exact absurd hc.2 (by decide)
theorem can_yes {l : List S32} (ho : Ok l) (hl : l.length ≤ 1000000) (hg : Gd l) {i : Int} (h : i ∈ ids l) : plan_Cancel.f l i = some (rm l i, true) := by
  obtain ⟨h1, h2⟩ := cancel_in hg.1 h
  unfold plan_Cancel.f
  rw [if_pos hl, good_true l ho (by omega) hg, Option.map_some, decide_eq_true h1, if_pos (by decide), h2]
theorem can_no {l : List S32} (ho : Ok l) (hl : l.length ≤ 1000000) {i : Int} (h : ¬ Gd l ∨ ¬ i ∈ ids l) : plan_Cancel.f l i = some ([], false) := by
  unfold plan_Cancel.f
  rw [if_pos hl, good l ho (by omega), Option.map_some, if_neg]
  intro hc
  rw [Bool.and_eq_true, decide_eq_true_eq] at hc
  rcases h with h | h
  · exact h ((gk_gd l).1 hc.1)
  · have := cancel_out h; omega
theorem sort_yes {l : List S32} (hl : l.length ≤ 1000000) : plan_Sort.f l = some (psort l) := if_pos hl
theorem rsort_yes {l : List S32} (hl : l.length ≤ 1000000) : remontoirref05_Sort.f l = some (psort l) := by
  unfold remontoirref05_Sort.f
  rw [if_pos hl, isort_eq]
theorem psort_len (l : List S32) : (psort l).length = l.length := (psort_perm l).length_eq
theorem psort_ids (l : List S32) (i : Int) : i ∈ ids (psort l) ↔ i ∈ ids l := ((psort_perm l).map _).mem_iff
theorem psort_ok {l : List S32} (h : Ok l) : Ok (psort l) := h.perm (psort_perm l)
theorem rm_psort (l : List S32) (i : Int) : rm (psort l) i = psort (rm l i) := by
  refine (psort_of ?_ ?_).symm
  · exact (psort_so l).filter _
  · exact (psort_perm l).filter _
end Go.Proofs.Ytboneknainlodaa.Core
