/- The queue's rows, plain: what a push and a removal keep. Conditions: none. -/
import Derived.Test.YtfkebbkfmchnaaaCmp
namespace Go.Proofs.Ytfkebbkfmchnaaa.Ln
open Go.RowKit Go.Proofs.Ytfkebbkfmchnaaa.PBase Go.Proofs.Ytfkebbkfmchnaaa.Heap
/-- A row in a heap's order. -/
def HPL (ag : Int) (L : List S77) : Prop := HP z77 (lt ag) L L.length
theorem g_append {L K : List S77} {m : Nat} (h : m < L.length) : Heap.g z77 (L ++ K) m = Heap.g z77 L m := by
  rw [g_lt z77 h, g_lt z77 (by rw [List.length_append]; omega)]
  exact List.getElem_append_left h
theorem g_take {L : List S77} {n m : Nat} (h : m < n) (hn : n ≤ L.length) : Heap.g z77 (L.take n) m = Heap.g z77 L m := by
  rw [g_lt z77 (by rw [List.length_take]; omega), g_lt z77 (by omega)]
  simp
theorem push_spec (ag : Int) {L : List S77} (h : HPL ag L) (x : S77) : HPL ag (pushL ag L x) ∧ (pushL ag L x).Perm (L ++ [x]) := by
  have hlen : (L ++ [x]).length = L.length + 1 := by simp
  obtain ⟨h1, h2, _⟩ := up_spec z77 (lt ag) (lt_ord ag) (L.length + 1) L.length (L ++ [x]) L.length (Nat.le_refl _) (by omega) (by omega)
    (fun m m0 m1 hm => by rw [g_append (by omega), g_append (by omega)]; exact h m m0 (by omega)) (fun m m0 m1 hm j0 => by omega)
  refine ⟨?_, h2⟩
  have e : (pushL ag L x).length = L.length + 1 := by have := h2.length_eq; rw [hlen] at this; exact this
  unfold HPL
  rw [e]
  exact h1
theorem perm_take {l : List S77} {n : Nat} (hn : l.length = n + 1) : l.Perm (Heap.g z77 l n :: l.take n) := by
  have h1 : l = l.take n ++ [l[n]] := by
    have h3 : l.drop n = [l[n]] := by
      rw [List.drop_eq_getElem_cons (by omega), List.drop_eq_nil_of_le (by omega)]
    rw [← h3, List.take_append_drop]
  rw [g_lt z77 (by omega)]
  have h2 : (l.take n ++ [l[n]]).Perm (l[n] :: l.take n) := by
    have := List.perm_append_comm (l₁ := l.take n) (l₂ := [l[n]])
    simpa using this
  exact (List.Perm.of_eq h1).trans h2
theorem fix_spec (ag : Int) {L : List S77} (h : HPL ag L) {i n : Nat} (hn : L.length = n + 1) (hi : i < n) :
    (∀ m, 0 < m → m < n → nb (lt ag) (Heap.g z77 (fixL ag L i n) ((m - 1) / 2)) (Heap.g z77 (fixL ag L i n) m)) ∧ (fixL ag L i n).Perm L ∧ Heap.g z77 (fixL ag L i n) n = Heap.g z77 L i := by
  have O := lt_ord ag
  have hs := fun m => sw_get z77 (l := L) (i := i) (j := n) (by omega) (by omega) m
  have hsl := sw_len z77 L i n
  have hsp := sw_perm z77 (l := L) (i := i) (j := n) (by omega) (by omega)
  have hL : ∀ m, 0 < m → m < n → nb (lt ag) (Heap.g z77 L ((m - 1) / 2)) (Heap.g z77 L m) := fun m m0 m1 => h m m0 (by omega)
  have hch : ∀ m, 0 < m → m < n → (m - 1) / 2 = i → 0 < i → nb (lt ag) (Heap.g z77 (sw z77 L i n) ((i - 1) / 2)) (Heap.g z77 (sw z77 L i n) m) := by
    intro m m0 m1 hm i0
    rw [hs, hs, if_neg (by omega), if_neg (by omega), if_neg (by omega), if_neg (by omega)]
    have k1 := hL i i0 hi
    have k2 := hL m m0 m1
    rw [hm] at k2
    exact O.tr k1 k2
  obtain ⟨d1, d2, d3, d4, d5, d6⟩ := down_spec z77 (lt ag) O n n (sw z77 L i n) i (Nat.sub_le _ _) (by omega) hi (fun m m0 m1 hm hm2 => by
    rw [hs, hs, if_neg (by omega), if_neg hm2, if_neg (by omega), if_neg hm]
    exact hL m m0 m1) hch
  have hgn : Heap.g z77 (Heap.down z77 (lt ag) n (sw z77 L i n) i n).1 n = Heap.g z77 L i := by
    rw [d6 n (Nat.le_refl _), hs, if_pos rfl]
  unfold fixL
  by_cases hd : i < (Heap.down z77 (lt ag) n (sw z77 L i n) i n).2
  · rw [if_pos hd]
    refine ⟨fun m m0 m1 => ?_, d1.trans hsp, hgn⟩
    by_cases e : m = i
    · subst e
      exact d3 (.inl (by omega)) m0
    · exact d2 m m0 m1 e
  · rw [if_neg hd]
    have hlen := down_len ag n n (sw z77 L i n) i
    have e1 := d4 (by omega)
    obtain ⟨u1, u2, u3⟩ := up_spec z77 (lt ag) O n i (Heap.down z77 (lt ag) n (sw z77 L i n) i n).1 i (Nat.le_refl _) (by omega) hi d2 (by rw [e1]; exact hch)
    exact ⟨u1, u2.trans (d1.trans hsp), by rw [u3 n (Nat.le_refl _)]; exact hgn⟩
theorem remove_spec (ag : Int) {L : List S77} (h : HPL ag L) {i : Nat} (hi : i < L.length) : HPL ag (removeL ag L i) ∧ L.Perm (Heap.g z77 L i :: removeL ag L i) := by
  obtain ⟨n, hn⟩ : ∃ n, L.length = n + 1 := ⟨L.length - 1, by omega⟩
  unfold removeL
  rw [show L.length - 1 = n by omega]
  by_cases hni : n = i
  · subst hni
    rw [if_neg (by simp)]
    refine ⟨?_, perm_take hn⟩
    unfold HPL
    rw [List.length_take, Nat.min_eq_left (by omega)]
    intro m m0 m1
    rw [g_take (by omega) (by omega), g_take m1 (by omega)]
    exact h m m0 (by omega)
  · rw [if_pos hni]
    obtain ⟨h1, h2, h3⟩ := fix_spec ag h hn (i := i) (by omega)
    have hl := fixL_len ag L i n
    refine ⟨?_, ?_⟩
    · unfold HPL
      rw [List.length_take, Nat.min_eq_left (by omega)]
      intro m m0 m1
      rw [g_take (by omega) (by omega), g_take m1 (by omega)]
      exact h1 m m0 m1
    · rw [← h3]
      exact h2.symm.trans (perm_take (by omega))
theorem first_least (ag : Int) {L : List S77} (h : HPL ag L) : ∀ x ∈ L, lt ag x (Heap.g z77 L 0) = false := by
  intro x hx
  obtain ⟨m, hm, rfl⟩ := List.mem_iff_getElem.1 hx
  have h2 := root z77 (lt ag) (lt_ord ag) h (by unfold nb; rw [lt_false]; omega) m hm
  rw [g_lt z77 hm] at h2
  exact h2
end Go.Proofs.Ytfkebbkfmchnaaa.Ln
