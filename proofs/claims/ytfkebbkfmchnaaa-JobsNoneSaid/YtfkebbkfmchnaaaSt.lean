/- Queues' rows with distinct numbers, plain. Conditions: none. -/
import Derived.Test.YtfkebbkfmchnaaaPl
import Derived.Test.YtfkebbkfmchnaaaSrt
namespace Go.Proofs.Ytfkebbkfmchnaaa.Ln
open Go.RowKit Go.Proofs.Ytfkebbkfmchnaaa.PBase Go.Proofs.Ytfkebbkfmchnaaa.Heap
/-- The jobs' numbers. -/
def ids (L : List S77) : List Int := L.map (fun x => x.f0)
theorem ids_perm {L M : List S77} (h : L.Perm M) : (ids L).Perm (ids M) := h.map _
theorem mem_ids {L : List S77} {x : S77} (h : x ∈ L) : x.f0 ∈ ids L := List.mem_map.2 ⟨x, h, rfl⟩
theorem ids_len (L : List S77) : (ids L).length = L.length := by simp [ids]
theorem place_in (L : List S77) (id : Int) : 0 ≤ place L id ↔ id ∈ ids L := by
  rcases place_cases L id with ⟨h1, h2⟩ | ⟨k, h1, h2, h3⟩
  · rw [h1]
    constructor
    · intro h; omega
    · intro h
      obtain ⟨x, hx, rfl⟩ := List.mem_map.1 h
      exact absurd rfl (h2 x hx)
  · rw [h2]
    constructor
    · intro _
      rw [g_lt z77 h1] at h3
      rw [← h3]
      exact mem_ids (List.getElem_mem h1)
    · intro _; omega
/-- A queue's row: a heap whose numbers are distinct. -/
structure St (ag : Int) (L : List S77) : Prop where
  hp : HPL ag L
  nd : (ids L).Nodup
theorem St.nil (ag : Int) : St ag [] := ⟨fun m m0 m1 => absurd m1 (by simp), List.nodup_nil⟩
theorem St.push {ag : Int} {L : List S77} (h : St ag L) {x : S77} (hx : x.f0 ∉ ids L) : St ag (pushL ag L x) ∧ (pushL ag L x).Perm (x :: L) := by
  obtain ⟨h1, h2⟩ := push_spec ag h.hp x
  have h3 : (pushL ag L x).Perm (x :: L) := h2.trans (List.perm_append_comm (l₁ := L) (l₂ := [x]))
  exact ⟨⟨h1, (ids_perm h3).nodup_iff.2 (List.nodup_cons.2 ⟨hx, h.nd⟩)⟩, h3⟩
theorem put_ok {L : List S77} {rm id cl : Int} (h1 : 0 ≤ cl ∧ cl < 8) (h2 : id ∉ ids L) (h3 : (L.length : Int) < rm) : putE L rm id cl = 0 := by
  have := place_in L id
  unfold putE
  rw [if_neg (by omega), if_neg (by rw [this]; exact h2), if_neg (by omega)]
theorem put_twice {L : List S77} {rm id cl : Int} (h1 : 0 ≤ cl ∧ cl < 8) (h2 : id ∈ ids L) : putE L rm id cl = 8 := by
  have := place_in L id
  unfold putE
  rw [if_neg (by omega), if_pos (by rw [this]; exact h2)]
theorem put_full {L : List S77} {rm id cl : Int} (h1 : 0 ≤ cl ∧ cl < 8) (h2 : id ∉ ids L) (h3 : rm ≤ (L.length : Int)) : putE L rm id cl = 10 := by
  have := place_in L id
  unfold putE
  rw [if_neg (by omega), if_neg (by rw [this]; exact h2), if_pos h3]
theorem put_arg {L : List S77} {rm id cl : Int} (h1 : ¬ (0 ≤ cl ∧ cl < 8)) : putE L rm id cl = 1 := by
  unfold putE
  rw [if_pos (by omega)]
theorem putL_ok {ag rm ct : Int} {L : List S77} {id cl : Int} (h : putE L rm id cl = 0) : putL ag rm ct L id cl = pushL ag L ⟨id, cl, ct⟩ := by
  unfold putL; rw [if_pos h]
theorem putL_no {ag rm ct : Int} {L : List S77} {id cl : Int} (h : putE L rm id cl ≠ 0) : putL ag rm ct L id cl = L := by
  unfold putL; rw [if_neg h]
theorem St.drop {ag : Int} {L : List S77} (h : St ag L) {id : Int} (hin : id ∈ ids L) : ∃ x, x ∈ L ∧ x.f0 = id ∧ St ag (dropL ag L id) ∧ L.Perm (x :: dropL ag L id) := by
  rcases place_cases L id with ⟨h1, h2⟩ | ⟨k, h1, h2, h3⟩
  · have := (place_in L id).2 hin
    omega
  · have e : dropL ag L id = removeL ag L k := by unfold dropL; rw [h2, if_pos (by omega), Int.toNat_natCast]
    obtain ⟨k1, k2⟩ := remove_spec ag h.hp h1
    rw [e]
    refine ⟨_, ?_, h3, ⟨k1, ?_⟩, k2⟩
    · rw [g_lt z77 h1]; exact List.getElem_mem h1
    · have := (ids_perm k2).nodup_iff.1 h.nd
      exact (List.nodup_cons.1 this).2
theorem drop_no {ag : Int} {L : List S77} {id : Int} (hin : id ∉ ids L) : dropL ag L id = L := by
  have := place_in L id
  unfold dropL
  rw [if_neg (by rw [this]; exact hin)]
theorem St.take {ag : Int} {L : List S77} (h : St ag L) (h0 : 0 < L.length) : St ag (removeL ag L 0) ∧ L.Perm (Heap.g z77 L 0 :: removeL ag L 0) ∧ ∀ x ∈ L, lt ag x (Heap.g z77 L 0) = false := by
  obtain ⟨k1, k2⟩ := remove_spec ag h.hp h0
  refine ⟨⟨k1, ?_⟩, k2, first_least ag h.hp⟩
  have := (ids_perm k2).nodup_iff.1 h.nd
  exact (List.nodup_cons.1 this).2
theorem same_id {L : List S77} (h : (ids L).Nodup) {a b : S77} (ha : a ∈ L) (hb : b ∈ L) (e : a.f0 = b.f0) : a = b := by
  induction L with
  | nil => cases ha
  | cons x L ih =>
    have h2 : x.f0 ∉ ids L ∧ (ids L).Nodup := List.nodup_cons.1 h
    rcases List.mem_cons.1 ha with ha1 | ha1
    · rcases List.mem_cons.1 hb with hb1 | hb1
      · rw [ha1, hb1]
      · have := mem_ids hb1
        rw [← e, ha1] at this
        exact absurd this h2.1
    · rcases List.mem_cons.1 hb with hb1 | hb1
      · have := mem_ids ha1
        rw [e, hb1] at this
        exact absurd this h2.1
      · exact ih h2.2 ha1 hb1
theorem sorted_eq {ag : Int} {M1 M2 : List S77} (h : M1.Perm M2) (nd : (ids M1).Nodup) (s1 : Sorted ag M1) (s2 : Sorted ag M2) : M1 = M2 := by
  refine List.Perm.eq_of_pairwise (le := fun a b => lt ag b a = false) (fun a b ha hb h1 h2 => ?_) s1 s2 h
  rw [lt_false] at h1 h2
  exact same_id nd ha (h.mem_iff.2 hb) (by omega)
theorem eq_waits : ∀ (k : Nat) (M : List S77) (i : Nat), M.length ≤ i + k → i ≤ M.length → M.length ≤ 1000000 → remontoirkeep_Waits.l0 (k + 1) M M (i : Int) = some true := by
  intro k
  induction k with
  | zero =>
    intro M i h1 h2 h3
    rw [remontoirkeep_Waits.l0, if_neg (by omega)]
  | succ k ih =>
    intro M i h1 h2 h3
    rw [remontoirkeep_Waits.l0]
    by_cases c : (i : Int) < (M.length : Int)
    · rw [if_pos c, if_pos (by omega), if_pos c, if_neg (by simp)]
      have e : wrap64 ((i : Int) + 1) = ((i + 1 : Nat) : Int) := by
        unfold wrap64; omega
      rw [e]
      exact ih M (i + 1) (by omega) (by omega) h3
    · rw [if_neg c]
theorem waits_same (M : List S77) (h : M.length ≤ 1000000) : remontoirkeep_Waits.f (M.length + 1) M M = some true := by
  unfold remontoirkeep_Waits.f
  rw [if_pos rfl]
  exact eq_waits M.length M 0 (by omega) (by omega) h
end Go.Proofs.Ytfkebbkfmchnaaa.Ln
