/- The reference's queue beside the queue, plain. Conditions: the rows are the same but for their order. -/
import Derived.Test.YtfkebbkfmchnaaaQrf
import Derived.Test.YtfkebbkfmchnaaaGb
namespace Go.Proofs.Ytfkebbkfmchnaaa.Ln
open Go.RowKit Go.Proofs.Ytfkebbkfmchnaaa.PBase Go.Proofs.Ytfkebbkfmchnaaa.PRef Go.Proofs.Ytfkebbkfmchnaaa.Heap
set_option linter.unusedVariables false
/-- What the reference's Drop leaves. -/
def rdropL (L : List S77) (id : Int) : List S77 := if 0 ≤ place L id then L.take (place L id).toNat ++ L.drop ((place L id).toNat + 1) else L
theorem place_perm {L M : List S77} (h : L.Perm M) (id : Int) : 0 ≤ place L id ↔ 0 ≤ place M id := by
  rw [place_in, place_in, (ids_perm h).mem_iff]
theorem putE_perm {L M : List S77} (h : L.Perm M) (rm id cl : Int) : putE L rm id cl = putE M rm id cl := by
  unfold putE
  rw [h.length_eq]
  by_cases c1 : cl < 0 ∨ 8 ≤ cl
  · rw [if_pos c1, if_pos c1]
  · rw [if_neg c1, if_neg c1]
    by_cases c2 : 0 ≤ place L id
    · rw [if_pos c2, if_pos ((place_perm h id).1 c2)]
    · rw [if_neg c2, if_neg (fun e => c2 ((place_perm h id).2 e))]
theorem putE_zero {L : List S77} {rm id cl : Int} (h : putE L rm id cl = 0) : id ∉ ids L := by
  intro e
  unfold putE at h
  by_cases c1 : cl < 0 ∨ 8 ≤ cl
  · rw [if_pos c1] at h; omega
  · rw [if_neg c1, if_pos ((place_in L id).2 e)] at h; omega
/-- What the reference's Put leaves. -/
def rputL (rm ct : Int) (L : List S77) (id cl : Int) : List S77 := if putE L rm id cl = 0 then L ++ [⟨id, cl, ct⟩] else L
theorem rput_perm {ag rm ct : Int} {L M : List S77} (h : L.Perm M) (hs : St ag M) (id cl : Int) : (rputL rm ct L id cl).Perm (putL ag rm ct M id cl) ∧ St ag (putL ag rm ct M id cl) := by
  unfold rputL putL
  rw [putE_perm h]
  by_cases c : putE M rm id cl = 0
  · rw [if_pos c, if_pos c]
    obtain ⟨h1, h2⟩ := hs.push (x := ⟨id, cl, ct⟩) (putE_zero c)
    refine ⟨?_, h1⟩
    have h3 : (L ++ [(⟨id, cl, ct⟩ : S77)]).Perm (⟨id, cl, ct⟩ :: L) := List.perm_append_comm (l₁ := L) (l₂ := [⟨id, cl, ct⟩])
    exact (h3.trans (h.cons _)).trans h2.symm
  · rw [if_neg c, if_neg c]
    exact ⟨h, hs⟩
theorem split_at {L : List S77} {k : Nat} (hk : k < L.length) : L.Perm (L[k] :: (L.take k ++ L.drop (k + 1))) := by
  have h1 : L = L.take k ++ (L[k] :: L.drop (k + 1)) := by
    rw [← List.drop_eq_getElem_cons hk, List.take_append_drop]
  exact (List.Perm.of_eq h1).trans List.perm_middle
theorem rdrop_split {L : List S77} {id : Int} (h : id ∈ ids L) : ∃ y, y ∈ L ∧ y.f0 = id ∧ L.Perm (y :: rdropL L id) := by
  rcases place_cases L id with ⟨h1, h2⟩ | ⟨k, h1, h2, h3⟩
  · have := (place_in L id).2 h
    omega
  · unfold rdropL
    rw [h2, if_pos (by omega), Int.toNat_natCast]
    rw [g_lt z77 h1] at h3
    exact ⟨L[k], List.getElem_mem h1, h3, split_at h1⟩
theorem rdrop_perm {ag : Int} {L M : List S77} (h : L.Perm M) (hs : St ag M) (id : Int) : (rdropL L id).Perm (dropL ag M id) ∧ St ag (dropL ag M id) := by
  by_cases c : id ∈ ids M
  · obtain ⟨x, hx, hx1, hs2, hp⟩ := hs.drop c
    obtain ⟨y, hy, hy1, hp2⟩ := rdrop_split ((ids_perm h).mem_iff.2 c)
    have e : y = x := same_id hs.nd (h.mem_iff.1 hy) hx (hy1.trans hx1.symm)
    subst e
    exact ⟨List.Perm.cons_inv (hp2.symm.trans (h.trans hp)), hs2⟩
  · have c2 : id ∉ ids L := fun e => c ((ids_perm h).mem_iff.1 e)
    rw [drop_no c]
    unfold rdropL
    rw [if_neg (by rw [place_in]; exact c2)]
    exact ⟨h, hs⟩
/-- The reference's first is the least. -/
theorem rfirst_least {ag : Int} {L : List S77} (nd : (ids L).Nodup) {x : S77} (hx : x ∈ L) (hl : ∀ y ∈ L, lt ag y x = false) : ∃ j, ∃ h : j < L.length, fst ag L 0 L = (j : Int) ∧ L[j] = x := by
  rcases fst_cases ag L L 0 with ⟨h1, h2⟩ | ⟨j, hj, h1, h2⟩
  · exact absurd (cnt_zero.2 hl) (h2 x hx)
  · refine ⟨j, hj, by rw [h1]; omega, ?_⟩
    have h3 := cnt_zero.1 h2 x hx
    have h4 := hl L[j] (List.getElem_mem hj)
    rw [lt_false] at h3 h4
    exact same_id nd (List.getElem_mem hj) hx (by omega)
theorem rtake_perm {ag : Int} {L M : List S77} (h : L.Perm M) (hs : St ag M) (h0 : 0 < M.length) : (∃ j, ∃ hj : j < L.length, fst ag L 0 L = (j : Int) ∧ L[j] = Heap.g z77 M 0) ∧ (rdropL L (Heap.g z77 M 0).f0).Perm (removeL ag M 0) ∧ St ag (removeL ag M 0) := by
  obtain ⟨t1, t2, t3⟩ := hs.take h0
  have hg : Heap.g z77 M 0 ∈ M := t2.mem_iff.2 List.mem_cons_self
  have hgl := h.mem_iff.2 hg
  have ndl := (ids_perm h).nodup_iff.2 hs.nd
  refine ⟨rfirst_least ndl hgl (fun y hy => t3 y (h.mem_iff.1 hy)), ?_, t1⟩
  obtain ⟨y, hy, hy1, hp2⟩ := rdrop_split (mem_ids hgl)
  have e : y = Heap.g z77 M 0 := same_id ndl hy hgl hy1
  subst e
  exact List.Perm.cons_inv (hp2.symm.trans (h.trans t2))
/-- A step of the reference's List: C is what is left of the sorted row M. -/
theorem drop_rd {M : List S77} {i : Nat} (hi : i < M.length) : M.drop i = rd_T77 M i :: M.drop (i + 1) := by
  rw [List.drop_eq_getElem_cons hi]
  simp [rd_T77, hi]
theorem rlist_step {ag : Int} {M C : List S77} {i : Nat} (hs : Sorted ag M) (nd : (ids M).Nodup) (hC : C.Perm (M.drop i)) (hi : i < M.length) : (∃ j, ∃ hj : j < C.length, fst ag C 0 C = (j : Int) ∧ C[j] = rd_T77 M i) ∧ (rdropL C (rd_T77 M i).f0).Perm (M.drop (i + 1)) := by
  have hd := drop_rd hi
  rw [hd] at hC
  have hin : rd_T77 M i ∈ C := hC.mem_iff.2 List.mem_cons_self
  have hsd : Sorted ag (rd_T77 M i :: M.drop (i + 1)) := by
    rw [← hd]
    exact hs.drop
  have ndd : (ids (rd_T77 M i :: M.drop (i + 1))).Nodup := by
    rw [← hd]
    exact nd.sublist ((List.drop_sublist _ _).map _)
  have ndc := (ids_perm hC).nodup_iff.2 ndd
  refine ⟨rfirst_least ndc hin (fun y hy => ?_), ?_⟩
  · rcases List.mem_cons.1 (hC.mem_iff.1 hy) with rfl | e
    · exact (lt_swo ag).irrefl _
    · exact (List.pairwise_cons.1 hsd).1 _ e
  · obtain ⟨y, hy, hy1, hp2⟩ := rdrop_split (mem_ids hin)
    have e : y = rd_T77 M i := same_id ndc hy hin hy1
    subst e
    exact List.Perm.cons_inv (hp2.symm.trans hC)
end Go.Proofs.Ytfkebbkfmchnaaa.Ln
