/- JobsRoom, the plain law. Conditions: none. -/
import Derived.Test.YtfkebbkfmchnaaaGc
set_option linter.unusedVariables false
namespace Go.Proofs.Ytfkebbkfmchnaaa.Bk
open Go.RowKit Go.Proofs.Ytfkebbkfmchnaaa.PBase Go.Proofs.Ytfkebbkfmchnaaa.Heap Go.Proofs.Ytfkebbkfmchnaaa.Ln Go.Proofs.Ytfkebbkfmchnaaa.Lst
theorem addE_0 {b : Book} {id cl : Int} (h1 : 0 ≤ cl ∧ cl < 8) (h2 : id ∉ b.Js.map jid) (h3 : (b.Js.length : Int) < b.rm) : addE b id cl = 0 := by
  unfold addE
  rw [if_neg (fun h => h h1), if_neg h2, if_neg (by omega)]
theorem addE_10 {b : Book} {id cl : Int} (h1 : 0 ≤ cl ∧ cl < 8) (h2 : id ∉ b.Js.map jid) (h3 : b.rm ≤ (b.Js.length : Int)) : addE b id cl = 10 := by
  unfold addE
  rw [if_neg (fun h => h h1), if_neg h2, if_pos h3]
/-- Filling: k jobs. -/
structure FL (b : Book) (n m k : Int) : Prop where
  rm : b.rm = n
  tr : b.tr = m
  ct : b.ct = 0
  len : (b.Js.length : Int) = k
  ls : b.Ls = []
  w : ∀ j ∈ b.Js, j.st = 1 ∧ j.us = 0
  ids : ∀ j ∈ b.Js, 0 ≤ j.id ∧ j.id < k
theorem FL.start (ag n m : Int) : FL (b0 ag n m) n m 0 := ⟨rfl, rfl, rfl, rfl, rfl, (fun _ h => nomatch h), (fun _ h => nomatch h)⟩
theorem FL.add {b : Book} {n m k cl : Int} (h : FL b n m k) (hk : 0 ≤ k ∧ k < n) (hc : 0 ≤ cl ∧ cl < 8) : addE b k cl = 0 ∧ FL (addB b k cl) n m (k + 1) := by
  refine ⟨addE_0 hc (fun hx => ?_) (by rw [h.len, h.rm]; exact hk.2), ⟨h.rm, h.tr, h.ct, ?_, h.ls, ?_, ?_⟩⟩
  · obtain ⟨j, hj, e⟩ := List.mem_map.1 hx
    have := (h.ids j hj).2
    have e : j.id = k := e
    omega
  · have := h.len
    show ((b.Js ++ [_]).length : Int) = k + 1
    simp
    omega
  · intro j hj
    rcases List.mem_append.1 hj with hj | hj
    · exact h.w j hj
    · rw [List.mem_singleton.1 hj]; exact ⟨rfl, rfl⟩
  · intro j hj
    rcases List.mem_append.1 hj with hj | hj
    · have := h.ids j hj; omega
    · rw [List.mem_singleton.1 hj]; exact ⟨hk.1, by show k < k + 1; omega⟩
/-- Before a round. -/
structure RJ (b : Book) (n m i : Int) : Prop where
  rm : b.rm = n
  tr : b.tr = m
  ct : b.ct = i
  len : (b.Js.length : Int) = n
  ls : b.Ls = []
  w : ∀ j ∈ b.Js, j.st = 1 ∧ j.us = 0
  ids : ∀ j ∈ b.Js, (0 ≤ j.id ∧ j.id < n) ∨ (1000 ≤ j.id ∧ j.id < 1000 + i)
theorem FL.done {b : Book} {n m : Int} (h : FL b n m n) : RJ b n m 0 := ⟨h.rm, h.tr, h.ct, h.len, h.ls, h.w, fun j hj => .inl (h.ids j hj)⟩
/-- One job, x, is out. -/
structure Mid (b : Book) (n m i x : Int) : Prop where
  rm : b.rm = n
  tr : b.tr = m
  ct : b.ct = i + 1
  len : (b.Js.length : Int) = n
  has : x ∈ b.Js.map jid
  ls : ∀ g ∈ b.Ls, g.j = x
  w : ∀ j ∈ b.Js, j.id ≠ x → j.st = 1 ∧ j.us = 0
  ids : ∀ j ∈ b.Js, (0 ≤ j.id ∧ j.id < n) ∨ (1000 ≤ j.id ∧ j.id < 1000 + i)
theorem full_ids {b : Book} {n i : Int} (hn : n ≤ 20) (h0 : 0 ≤ i) (ids : ∀ j ∈ b.Js, (0 ≤ j.id ∧ j.id < n) ∨ (1000 ≤ j.id ∧ j.id < 1000 + i)) : 1000 + i ∉ b.Js.map jid := by
  intro hx
  obtain ⟨j, hj, e⟩ := List.mem_map.1 hx
  have := ids j hj
  have e : j.id = 1000 + i := e
  omega
/-- All wait, so the queue holds them. -/
theorem Inv.all {b : Book} (h : Inv b) (w : ∀ j ∈ b.Js, j.st = 1) : b.L.length = b.Js.length := by
  refine Nat.le_antisymm h.len ?_
  have e0 : (b.Js.map jid).length = b.Js.length := by simp
  rw [← ids_len b.L, ← e0]
  refine nd_len h.nd (fun x hx => ?_)
  obtain ⟨j, hj, rfl⟩ := List.mem_map.1 hx
  exact h.w2 j hj (w j hj)
theorem RJ.fetch {b : Book} {n m i : Int} (h : RJ b n m i) (hI : Inv b) (hn : 1 ≤ n) : 0 < b.L.length ∧ usedOf b (fetchJ b).f0 = 0 ∧ Mid (fetchB b 5) n m i (fetchJ b).f0 ∧ lk gno (fetchB b 5).Ls (i + 1) = some ⟨i + 1, (fetchJ b).f0, 5⟩ ∧ usedOf (fetchB b 5) (fetchJ b).f0 = 1 := by
  have h1 := hI.all (fun j hj => (h.w j hj).1)
  have h2 := h.len
  have h0 : 0 < b.L.length := by omega
  obtain ⟨_, j, hj, e1, e2, e3, hk⟩ := hI.first h0
  have hu : usedOf b (fetchJ b).f0 = 0 := by
    unfold usedOf
    rw [hk]
    exact (h.w j hj).2
  refine ⟨h0, hu, ⟨h.rm, h.tr, by show b.ct + 1 = i + 1; rw [h.ct], ?_, ?_, ?_, ?_, ?_⟩, ?_, ?_⟩
  · show ((setJ _ _ _ _).length : Int) = n
    rw [setJ_len]; exact h.len
  · show _ ∈ (setJ _ _ _ _).map jid
    rw [setJ_id]
    exact List.mem_map.2 ⟨j, hj, e1⟩
  · intro g hg
    rw [show (fetchB b 5).Ls = b.Ls ++ [⟨b.ct + 1, (fetchJ b).f0, 5⟩] from rfl, h.ls, List.nil_append] at hg
    rw [List.mem_singleton.1 hg]
  · intro k hk hne
    rcases setJ_mem hk with ⟨hk, _⟩ | ⟨k2, hk2, e, rfl⟩
    · exact h.w k hk
    · exact absurd e hne
  · intro k hk
    rcases setJ_mem hk with ⟨hk, _⟩ | ⟨k2, hk2, e, rfl⟩
    · exact h.ids k hk
    · exact h.ids k2 hk2
  · rw [show (fetchB b 5).Ls = b.Ls ++ [⟨b.ct + 1, (fetchJ b).f0, 5⟩] from rfl, h.ls, h.ct, List.nil_append, lk_cons]
    exact if_pos rfl
  · unfold usedOf
    rw [show (fetchB b 5).Js = setJ b.Js (fetchJ b).f0 2 (usedOf b (fetchJ b).f0 + 1) from rfl, hu, lk_setJ, hk]
    show (if j.id = (fetchJ b).f0 then (⟨j.id, j.cls, 2, 0 + 1⟩ : Jb) else j).us = 1
    rw [if_pos e1]
    rfl
theorem Mid.rest {b : Book} {n m i x us : Int} (h : Mid b n m i x) : Mid (restB b x us) n m i x := by
  refine ⟨h.rm, h.tr, h.ct, ?_, ?_, fun g hg => h.ls g (rm_mem.1 hg).1, ?_, ?_⟩
  · show ((setJ _ _ _ _).length : Int) = n
    rw [setJ_len]; exact h.len
  · show _ ∈ (setJ _ _ _ _).map jid
    rw [setJ_id]
    exact h.has
  · intro k hk hne
    rcases setJ_mem hk with ⟨hk, _⟩ | ⟨k2, hk2, e, rfl⟩
    · exact h.w k hk hne
    · exact absurd e hne
  · intro k hk
    rcases setJ_mem hk with ⟨hk, _⟩ | ⟨k2, hk2, e, rfl⟩
    · exact h.ids k hk
    · exact h.ids k2 hk2
/-- x is gone. -/
structure GJ (b : Book) (n m i x : Int) : Prop where
  rm : b.rm = n
  tr : b.tr = m
  ct : b.ct = i + 1
  len : (b.Js.length : Int) + 1 = n
  no : x ∉ b.Js.map jid
  ls : b.Ls = []
  w : ∀ j ∈ b.Js, j.st = 1 ∧ j.us = 0
  ids : ∀ j ∈ b.Js, (0 ≤ j.id ∧ j.id < n) ∨ (1000 ≤ j.id ∧ j.id < 1000 + i)
theorem Mid.gone {b : Book} {n m i x : Int} (h : Mid b n m i x) (hI : Inv b) : GJ (goneB b x) n m i x := by
  have h1 := rm_len (κ := jid) hI.nd h.has
  have h2 := h.len
  refine ⟨h.rm, h.tr, h.ct, ?_, ?_, ?_, ?_, ?_⟩
  · show ((Lst.rm jid b.Js x).length : Int) + 1 = n
    omega
  · rw [← lk_none]
    show lk jid (Lst.rm jid b.Js x) x = none
    rw [lk_rm, if_pos rfl]
  · show Lst.rm gjo b.Ls x = []
    apply List.eq_nil_iff_forall_not_mem.2
    intro g hg
    obtain ⟨h3, h4⟩ := rm_mem.1 hg
    exact h4 (h.ls g h3)
  · intro j hj
    obtain ⟨h3, h4⟩ := rm_mem.1 hj
    exact h.w j h3 h4
  · intro j hj
    exact h.ids j (rm_mem.1 hj).1
theorem GJ.add {b : Book} {n m i x : Int} (h : GJ b n m i x) (hn : n ≤ 20) (h0 : 0 ≤ i) : addE b (1000 + i) 7 = 0 ∧ RJ (addB b (1000 + i) 7) n m (i + 1) := by
  have h2 := h.len
  have h3 := h.rm
  refine ⟨addE_0 (by decide) (full_ids hn h0 h.ids) (by omega), ⟨h.rm, h.tr, h.ct, ?_, h.ls, ?_, ?_⟩⟩
  · show ((b.Js ++ [_]).length : Int) = n
    simp
    omega
  · intro j hj
    rcases List.mem_append.1 hj with hj | hj
    · exact h.w j hj
    · rw [List.mem_singleton.1 hj]; exact ⟨rfl, rfl⟩
  · intro j hj
    rcases List.mem_append.1 hj with hj | hj
    · have := h.ids j hj; omega
    · rw [List.mem_singleton.1 hj]; exact .inr ⟨by show 1000 ≤ 1000 + i; omega, by show 1000 + i < 1000 + (i + 1); omega⟩
end Go.Proofs.Ytfkebbkfmchnaaa.Bk
