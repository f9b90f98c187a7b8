/- RingHolds, plain: what lies in the ring as it is laid, and as it is taken. Conditions: none of the program. -/
import Derived.Test.YtedolmjealgeoaaDoorAcw
set_option linter.unusedVariables false
namespace Go.Proofs.YtedolmjealgeoaaDoor.Rg
open Go.RowKit Go.Maps Go.Proofs.YtedolmjealgeoaaDoor.PBase Go.Proofs.YtedolmjealgeoaaDoor.Cat Go.Proofs.YtedolmjealgeoaaDoorW.PrintWords Go.Proofs.YtedolmjealgeoaaDoorW.PrintLast Go.Proofs.YtedolmjealgeoaaDoorW.PrintMore
/-- The i-th one that is laid. -/
def tk (A : List S33) (i : Nat) : S114 := ⟨md 64 (rd_T33 A i).f1, ⟨i, (rd_T33 A i).f2.f1⟩⟩
def TH (A : List S33) : Nat → List S114
  | 0 => []
  | i + 1 => tk A i :: TH A i
theorem TH_mem {A : List S33} {n : Nat} {l : S114} : l ∈ TH A n ↔ ∃ k, k < n ∧ l = tk A k := by
  induction n with
  | zero => simp [TH]
  | succ n ih =>
    unfold TH
    rw [List.mem_cons, ih]
    constructor
    · rintro (h | ⟨k, hk, h⟩)
      · exact ⟨n, by omega, h⟩
      · exact ⟨k, by omega, h⟩
    · rintro ⟨k, hk, h⟩
      by_cases e : k = n
      · exact .inl (by rw [h, e])
      · exact .inr ⟨k, by omega, h⟩
theorem TH_len (A : List S33) (n : Nat) : (TH A n).length = n := by
  induction n with
  | zero => rfl
  | succ n ih => rw [TH, List.length_cons, ih]
theorem TH_new {A : List S33} {n : Nat} : (tk A n).f1.f0 ∉ tid (TH A n) := by
  intro h
  obtain ⟨l, hl, e⟩ := tid_in.1 h
  obtain ⟨k, hk, rfl⟩ := TH_mem.1 hl
  have e2 : (k : Int) = (n : Int) := e
  omega
theorem TH_put (A : List S33) (n : Nat) : putB (TH A n) (tk A n).f0 (tk A n).f1 = true := by
  have h := md_in 64 (rd_T33 A n).f1 (by decide)
  unfold putB
  exact decide_eq_true ⟨⟨h.1, h.2⟩, TH_new⟩
/-- What is told of a list that was taken. -/
structure TD (A : List S33) (n : Nat) (k : Int) (L : List S31) : Prop where
  so : So L
  nd : (ids L).Nodup
  of : ∀ d ∈ L, ∃ i : Nat, i < n ∧ d = (tk A i).f1 ∧ (tk A i).f0 = k
theorem TD.of_at {A : List S33} {n : Nat} {U : List S114} (p : PT U) (h : ∀ l ∈ U, l ∈ TH A n) (k : Int) : TD A n k (psort (atS U k)) := by
  refine ⟨psort_so _, ids_at p k, fun d hd => ?_⟩
  obtain ⟨i, hi, e⟩ := TH_mem.1 (h _ (at_in hd))
  exact ⟨i, hi, by rw [← e], by rw [← e]⟩
theorem so_rd {L : List S31} (h : So L) (hn : (ids L).Nodup) {i : Nat} (h0 : 0 < i) (hi : i < L.length) : lt (L[i - 1]'(by omega)) L[i] = true := by
  have h1 := List.pairwise_iff_getElem.1 h (i - 1) i (by omega) hi (by omega)
  rw [nb_iff] at h1
  rw [lt_iff]
  have h2 : L[i - 1].f0 ≠ L[i].f0 := fun e => by
    have h3 := List.pairwise_iff_getElem.1 hn (i - 1) i (by unfold ids; rw [List.length_map]; omega) (by unfold ids; rw [List.length_map]; omega) (by omega)
    unfold ids at h3
    rw [List.getElem_map, List.getElem_map] at h3
    exact h3 e
  omega
/-- A round finds a slot, where there is one. -/
theorem round_some {fu f : Int} {r : Int × Bool} (hf : 0 ≤ f ∧ f < 64) (h : Mk.IsRound fu f r) {j : Int} (hj : Mk.hs fu j = true) : r.2 = true ∧ 0 ≤ r.1 ∧ r.1 < 64 ∧ Mk.hs fu r.1 = true := by
  have h64 := Mk.hs_in hj
  have key : ∀ (g : Int) (s : Int × Bool), Mk.IsNext fu g s → s.2 = true → 0 ≤ s.1 ∧ s.1 < 64 ∧ Mk.hs fu s.1 = true := fun g s hs e => by
    rcases hs with ⟨_, _, _, h4, _⟩ | ⟨h4, _⟩
    · have := Mk.hs_in h4
      exact ⟨this.1, this.2, h4⟩
    · rw [h4] at e; cases e
  unfold Mk.IsRound at h
  rw [if_pos hf] at h
  obtain ⟨s, hs, h⟩ := h
  by_cases e : s.2 = true
  · rw [if_pos e] at h
    subst h
    exact ⟨e, key f r hs e⟩
  · rw [if_neg e] at h
    have h2 : r.2 = true := by
      rcases h with ⟨h1, _⟩ | ⟨h1, h2⟩
      · exact h1
      · rw [h2 j h64.1 h64.1] at hj; cases hj
    exact ⟨h2, key 0 r h h2⟩
theorem round_none {fu f : Int} {r : Int × Bool} (h : Mk.IsRound fu f r) (hn : ∀ j, Mk.hs fu j = false) : r = (0, false) := by
  have key : ∀ (g : Int) (s : Int × Bool), Mk.IsNext fu g s → s = (0, false) := fun g s hs => by
    rcases hs with ⟨_, _, _, h4, _⟩ | ⟨h4, _⟩
    · rw [hn] at h4; cases h4
    · exact h4
  unfold Mk.IsRound at h
  split at h
  · obtain ⟨s, hs, h⟩ := h
    rw [key f s hs] at h
    exact key 0 r h
  · exact h
theorem hs_empty {fu : Int} (h : ∀ j : Nat, j < 64 → Mk.hs fu j = decide (atS [] j ≠ [])) (j : Int) : Mk.hs fu j = false := by
  by_cases hj : 0 ≤ j ∧ j < 64
  · have := h j.toNat (by omega)
    rw [show ((j.toNat : Nat) : Int) = j by omega] at this
    rw [this]
    simp [atS]
  · exact Mk.hs_out hj
theorem fu_zero {fu : Int} (hU : Mk.U fu) (h : ∀ j : Nat, j < 64 → Mk.hs fu j = decide (atS [] j ≠ [])) : fu = 0 := by
  refine Mk.ext hU (by unfold Mk.U; omega) (fun i h0 h1 => ?_)
  rw [hs_empty h i]
  unfold Mk.hs
  simp
theorem hs_some {U : List S114} {fu : Int} (p : PT U) (h : ∀ j : Nat, j < 64 → Mk.hs fu j = decide (atS U j ≠ [])) (hU : U ≠ []) : ∃ j, Mk.hs fu j = true := by
  obtain ⟨l, U', rfl⟩ := List.exists_cons_of_ne_nil hU
  have hs := p.sl l List.mem_cons_self
  refine ⟨l.f0, ?_⟩
  have := h l.f0.toNat (by omega)
  rw [show ((l.f0.toNat : Nat) : Int) = l.f0 by omega] at this
  rw [this, atS_cons, if_pos rfl]
  simp
theorem take_len {U : List S114} (k : Int) : (takeT U k).length + (psort (atS U k)).length = U.length := by
  rw [psort_len]
  unfold takeT atS
  rw [List.length_map]
  induction U with
  | nil => rfl
  | cons a U ih =>
    by_cases h : a.f0 = k
    · rw [List.filter_cons_of_neg (by simpa using h), List.filter_cons_of_pos (by simpa using h), List.length_cons, List.length_cons]
      omega
    · rw [List.filter_cons_of_pos (by simpa using h), List.filter_cons_of_neg (by simpa using h), List.length_cons, List.length_cons]
      omega
theorem PT.take {U : List S114} (p : PT U) (k : Int) : PT (takeT U k) :=
  ⟨p.nd.sublist (List.filter_sublist.map _), fun l hl => p.sl l (List.mem_filter.1 hl).1, fun l hl => p.wf l (List.mem_filter.1 hl).1⟩
end Go.Proofs.YtedolmjealgeoaaDoor.Rg
