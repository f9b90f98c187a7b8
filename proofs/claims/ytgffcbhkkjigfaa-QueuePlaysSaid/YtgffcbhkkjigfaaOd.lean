/- QueueOrder, the plain law and words of memory. Conditions: none. -/
import Derived.Test.YtgffcbhkkjigfaaRm
namespace Go.Proofs.Ytgffcbhkkjigfaa.Ln
open Go.RowKit Go.Proofs.Ytgffcbhkkjigfaa.PBase Go.Proofs.Ytgffcbhkkjigfaa.Cat Go.Proofs.Ytgffcbhkkjigfaa.Heap Go.Proofs.YtgffcbhkkjigfaaW.PrintWords Go.Proofs.YtgffcbhkkjigfaaW.PrintLast Go.Proofs.YtgffcbhkkjigfaaW.PrintMore
set_option linter.unusedVariables false
/-- A number's class. -/
def md (x : Int) : Int := if Int.tmod x 8 < 0 then Int.tmod x 8 + 8 else Int.tmod x 8
theorem tmod8 (x : Int) : -8 < Int.tmod x 8 ∧ Int.tmod x 8 < 8 := by
  have h1 := Int.tmod_lt_of_pos x (show (0 : Int) < 8 by decide)
  have h2 := Int.tmod_lt_of_pos (-x) (show (0 : Int) < 8 by decide)
  rw [Int.neg_tmod] at h2
  omega
theorem md_in (x : Int) : 0 ≤ md x ∧ md x < 8 := by
  have := tmod8 x
  unfold md
  split <;> omega
theorem md_is (x : Int) : remontoirkeep_Mod.f x 8 = some (md x) := by
  have h := tmod8 x
  unfold remontoirkeep_Mod.f md
  generalize Int.tmod x 8 = r at h ⊢
  rw [if_neg (by decide)]
  by_cases c : r < 0
  · have e : wrap64 (r + 8) = r + 8 := by unfold wrap64; omega
    rw [if_pos c, if_pos c, e]
  · rw [if_neg c, if_neg c]
theorem mod_calls (x n : Int) (W : World) (h : md x = n) : Calls Try.prog 16 #[.int .i64 x, .int .i64 8] W fun e w' => e = .returned (.int .i64 n) ∧ Below W.heap.size W w' := by
  subst h
  refine (remontoirkeep_Mod.calls x 8 _ W (md_is x)).mono ?_
  rintro e w' ⟨rfl, h⟩
  exact ⟨rfl, h.below⟩
/-- A queue's blocks that are told anew. -/
theorem QI.swap {N : Nat} {X X1 : Nat → Prop} {W W1 : World} {B : Nat} {ag rm ct : Int} {L : List S32} (h : QI N X W B ag rm ct L) (hf : Fr X W W1) (hX : ∀ k, X1 k → (X k ∨ W.heap.size ≤ k) ∧ k < W1.heap.size) : QI N X1 W1 B ag rm ct L := by
  obtain ⟨⟨v, h1, h2⟩, h3⟩ := h
  refine ⟨⟨v, h1.keep hf h2, fun k hk e => ?_⟩, fun k hk => (hX k hk).2⟩
  rcases (hX k hk).1 with hk | hk
  · exact h2 k hk e
  · have := qf_lt h1 k e
    omega
theorem own_fr {F : Nat → Prop} {W W' : World} {b n s : Nat} {e : TypeId} {v : Value} {cs : List Value} (h : W.ownsRow b e s v n cs) (hF : Fr F W W') (hn : ∀ k, v.ownBlock = some k → ¬ F k) : W'.ownsRow b e s v n cs := by
  obtain ⟨h1, h2⟩ := h
  refine ⟨h1, ?_⟩
  rcases h2 with h2 | ⟨g, cap, cells, rfl, hgb, hgc, hr⟩
  · exact .inl h2
  · exact .inr ⟨g, cap, cells, rfl, hgb, (hF.blk g (Array.getElem?_eq_some_iff.1 hgc).1 (hn g rfl)).trans hgc, hr⟩
theorem Fr.rd {W w' : World} {a : Addr} {v : Value} (hf : Fr (fun k => W.heap.size ≤ k) W w') (hc : W.cell? a = some v) : w'.cell? a = some v :=
  hf.cell hc (by have := World.block_lt_of_cell? W _ hc; omega)
/-- The queue as it was filled: i jobs came. -/
structure O1 (ag : Int) (l : List S32) (i : Nat) (L : List S32) (C : List Int) : Prop where
  st : St ag L
  le : L.length ≤ i
  len : C.length = i
  has : ∀ x ∈ L, 0 ≤ x.f0 ∧ x.f0 < i ∧ x.f1 = md (rd_T32 l x.f0).f2 ∧ x.f2 = rd C x.f0
theorem O1.nil (ag : Int) (l : List S32) : O1 ag l 0 [] [] := ⟨St.nil ag, Nat.le_refl _, rfl, fun x h => (List.not_mem_nil h).elim⟩
theorem rd_left {C : List Int} {j c : Int} (h0 : 0 ≤ j) (h : j < C.length) : rd (C ++ [c]) j = rd C j := by
  unfold rd
  rw [List.getD_eq_getElem?_getD, List.getD_eq_getElem?_getD, List.getElem?_append_left (by omega)]
theorem rd_last {C : List Int} {c : Int} {i : Nat} (h : C.length = i) : rd (C ++ [c]) i = c := by
  subst h
  unfold rd
  simp
theorem O1.put {ag : Int} {l : List S32} {i : Nat} {L : List S32} {C : List Int} (h : O1 ag l i L C) (hi : i < 60) (ct : Int) : putE L 60 i (md (rd_T32 l i).f2) = 0 ∧ O1 ag l (i + 1) (putL ag 60 ct L i (md (rd_T32 l i).f2)) (C ++ [ct]) ∧ (putL ag 60 ct L i (md (rd_T32 l i).f2)).length = L.length + 1 := by
  have hni : (i : Int) ∉ ids L := by
    intro e
    obtain ⟨x, hx, e⟩ := List.mem_map.1 e
    have e2 : x.f0 = (i : Int) := e
    have := (h.has x hx).2.1
    omega
  have h1 : putE L 60 (i : Int) (md (rd_T32 l i).f2) = 0 := put_ok (md_in _) hni (by have := h.le; omega)
  have hp := h.st.push (x := ⟨i, md (rd_T32 l i).f2, ct⟩) hni
  have hlen : (pushL ag L ⟨(i : Int), md (rd_T32 l i).f2, ct⟩).length = L.length + 1 := by rw [hp.2.length_eq, List.length_cons]
  refine ⟨h1, ?_, by rw [putL_ok h1]; exact hlen⟩
  rw [putL_ok h1]
  refine ⟨hp.1, by have := h.le; omega, by simp [h.len], fun x hx => ?_⟩
  rcases List.mem_cons.1 (hp.2.mem_iff.1 hx) with rfl | hx
  · exact ⟨Int.natCast_nonneg _, by show (i : Int) < _; omega, rfl, (rd_last h.len).symm⟩
  · obtain ⟨k1, k2, k3, k4⟩ := h.has x hx
    exact ⟨k1, by omega, k3, by rw [rd_left k1 (by rw [h.len]; exact k2)]; exact k4⟩
theorem take_len {ag : Int} {L : List S32} (h : St ag L) (h0 : 0 < L.length) : (removeL ag L 0).length + 1 = L.length := by
  have := (h.take h0).2.1.length_eq
  rw [List.length_cons] at this
  omega
theorem O1.take {ag : Int} {l : List S32} {i : Nat} {L : List S32} {C : List Int} (h : O1 ag l i L C) (h0 : 0 < L.length) : O1 ag l i (removeL ag L 0) C := by
  have h1 := h.st.take h0
  have h2 := take_len h.st h0
  exact ⟨h1.1, by have := h.le; omega, h.len, fun x hx => h.has x (h1.2.1.mem_iff.2 (List.mem_cons_of_mem _ hx))⟩
/-- The queue as it is emptied: i of M are taken. -/
structure O2 (ag : Int) (M : List S32) (i : Nat) (L : List S32) : Prop where
  st : St ag L
  pm : L.Perm (M.drop i)
theorem O2.len {ag : Int} {M : List S32} {i : Nat} {L : List S32} (h : O2 ag M i L) : L.length = M.length - i := by rw [h.pm.length_eq, List.length_drop]
theorem drop_rd {M : List S32} {i : Nat} (hi : i < M.length) : M.drop i = rd_T32 M i :: M.drop (i + 1) := by
  rw [List.drop_eq_getElem_cons hi]
  simp [rd_T32, hi]
theorem O2.take {ag : Int} {M : List S32} {i : Nat} {L : List S32} (h : O2 ag M i L) (hs : Sorted ag M) (hi : i < M.length) : Heap.g z32 L 0 = rd_T32 M i ∧ O2 ag M (i + 1) (removeL ag L 0) := by
  have h0 : 0 < L.length := by rw [h.len]; omega
  have ht := h.st.take h0
  have hd := drop_rd hi
  have hpm := h.pm
  rw [hd] at hpm
  have hin : rd_T32 M i ∈ L := hpm.mem_iff.2 List.mem_cons_self
  have hg : Heap.g z32 L 0 ∈ L := by rw [g_lt z32 h0]; exact List.getElem_mem h0
  have hg2 : Heap.g z32 L 0 ∈ rd_T32 M i :: M.drop (i + 1) := hpm.mem_iff.1 hg
  have hsd : Sorted ag (rd_T32 M i :: M.drop (i + 1)) := by
    rw [← hd]
    exact hs.drop
  have e : Heap.g z32 L 0 = rd_T32 M i := by
    rcases List.mem_cons.1 hg2 with e | e
    · exact e
    · have h1 := (List.pairwise_cons.1 hsd).1 _ e
      have h2 := ht.2.2 _ hin
      rw [lt_false] at h1 h2
      exact same_id h.st.nd hg hin (by omega)
  refine ⟨e, ht.1, ?_⟩
  have h3 := ht.2.1.symm.trans hpm
  rw [e] at h3
  exact List.Perm.cons_inv h3
theorem less_prev {ag : Int} {M : List S32} (hs : Sorted ag M) (nd : (ids M).Nodup) {i : Nat} (h0 : 0 < i) (hi : i < M.length) : lt ag (rd_T32 M ((i : Int) - 1)) (rd_T32 M i) = true := by
  have hd := drop_rd (M := M) (i := i - 1) (by omega)
  have hd2 := drop_rd hi
  rw [show i - 1 + 1 = i by omega, hd2] at hd
  have hsd : Sorted ag (rd_T32 M ((i - 1 : Nat) : Int) :: rd_T32 M i :: M.drop (i + 1)) := by
    rw [← hd]
    exact hs.drop
  have h1 := (List.pairwise_cons.1 hsd).1 _ List.mem_cons_self
  have hn : (ids (rd_T32 M ((i - 1 : Nat) : Int) :: rd_T32 M i :: M.drop (i + 1))).Nodup := by
    rw [← hd]
    exact nd.sublist ((List.drop_sublist _ _).map _)
  have hne : (rd_T32 M ((i - 1 : Nat) : Int)).f0 ≠ (rd_T32 M i).f0 := by
    intro e
    have h3 : (rd_T32 M ((i - 1 : Nat) : Int)).f0 ∉ ids (rd_T32 M i :: M.drop (i + 1)) := (List.nodup_cons.1 hn).1
    exact h3 (by rw [e]; exact mem_ids List.mem_cons_self)
  have e : ((i - 1 : Nat) : Int) = (i : Int) - 1 := by omega
  rw [e] at h1 hne
  rw [lt_false] at h1
  rw [lt_iff]
  omega
/-- What the law asks of the job that is next. -/
theorem O1.at {ag : Int} {l : List S32} {k : Nat} {L M : List S32} {C : List Int} (h : O1 ag l k L C) (hp : M.Perm L) {i : Nat} (hi : i < M.length) : 0 ≤ (rd_T32 M i).f0 ∧ (rd_T32 M i).f0 < k ∧ (rd_T32 M i).f1 = md (rd_T32 l (rd_T32 M i).f0).f2 ∧ (rd_T32 M i).f2 = rd C (rd_T32 M i).f0 := by
  refine h.has _ (hp.mem_iff.1 ?_)
  have : rd_T32 M i = M[i] := by simp [rd_T32, hi]
  rw [this]
  exact List.getElem_mem hi
end Go.Proofs.Ytgffcbhkkjigfaa.Ln
