/- JobsFair, the plain law. Conditions: none. -/
import Derived.Test.YtfkebbkfmchnaaaRp
set_option linter.unusedVariables false
namespace Go.Proofs.Ytfkebbkfmchnaaa.Bk
open Go.RowKit Go.Proofs.Ytfkebbkfmchnaaa.PBase Go.Proofs.Ytfkebbkfmchnaaa.Heap Go.Proofs.Ytfkebbkfmchnaaa.Ln Go.Proofs.Ytfkebbkfmchnaaa.Lst Go.Proofs.YtfkebbkfmchnaaaW.PrintWords Go.Proofs.YtfkebbkfmchnaaaW.PrintLast Go.Proofs.YtfkebbkfmchnaaaW.PrintMore
theorem turn_val {ag f0 f1 f2 : Int} (ha : 1 ≤ ag ∧ ag ≤ 1000) (h1 : 0 ≤ f1 ∧ f1 < 8) (h2 : 0 ≤ f2 ∧ f2 ≤ 1000000) : turn_Turn.f ag f0 f1 f2 = some (f2 + ag * f1) := by
  have hm : 0 ≤ ag * f1 ∧ ag * f1 ≤ 7000 := by
    refine ⟨Int.mul_nonneg (by omega) h1.1, ?_⟩
    have := Int.mul_le_mul ha.2 (show f1 ≤ 7 by omega) h1.1 (by decide)
    omega
  have e1 : turn_Good.f f0 f1 f2 = some true := by
    unfold turn_Good.f turn_in.f
    rw [if_pos h1.1, Option.bind_some, if_pos (decide_eq_true (by omega)), if_pos h2.1, Option.bind_some, decide_eq_true (by omega)]
  unfold turn_Turn.f
  rw [e1, Option.bind_some, if_pos rfl]
  unfold turn_in.f
  rw [if_pos ha.1, Option.bind_some, if_pos (decide_eq_true ha.2)]
  generalize ag * f1 = p at hm ⊢
  have e2 : wrap64 p = p := by unfold wrap64; omega
  rw [e2]
  have e3 : wrap64 (f2 + p) = f2 + p := by clear e2; unfold wrap64; omega
  rw [e3]
theorem tv_val {ag : Int} {x : S77} (ha : 1 ≤ ag ∧ ag ≤ 1000) (h1 : 0 ≤ x.f1 ∧ x.f1 < 8) (h2 : 0 ≤ x.f2 ∧ x.f2 ≤ 1000000) : tv ag x = x.f2 + ag * x.f1 := by
  unfold tv
  rw [turn_val ha h1 h2]
  rfl
/-- How many are ahead. -/
def ahead (ag : Int) (j : S77) (L : List S77) : Nat := L.countP (fun x => lt ag x j)
theorem ahead_lt {ag : Int} {j : S77} {L : List S77} (h : j ∈ L) : ahead ag j L + 1 ≤ L.length := by
  have h1 : lt ag j j = false := (lt_swo ag).irrefl j
  induction L with
  | nil => cases h
  | cons x L ih =>
    unfold ahead at *
    rw [List.countP_cons, List.length_cons]
    have h2 := List.countP_le_length (p := fun x => lt ag x j) (l := L)
    rcases List.mem_cons.1 h with rfl | h
    · rw [h1]
      simp
      exact h2
    · have := ih h
      by_cases c : lt ag x j = true
      · rw [if_pos c]; omega
      · rw [if_neg c]; omega
/-- The race: i are taken since j waits. -/
structure Race (ag rm : Int) (j : S77) (i : Int) (L : List S77) : Prop where
  mem : j ∈ L
  inv : ag * j.f1 < i → (ahead ag j L : Int) + i ≤ ag * j.f1 + rm
theorem Race.start {ag rm : Int} {j : S77} {L : List S77} (h : j ∈ L) (ha : 1 ≤ ag) (hj : 0 ≤ j.f1) : Race ag rm j 0 L := ⟨h, fun h2 => by
  have : 0 ≤ ag * j.f1 := Int.mul_nonneg (by omega) hj
  omega⟩
/-- One more comes. -/
theorem Race.push {ag rm i : Int} {j x : S77} {L M : List S77} (h : Race ag rm j i L) (ha : 1 ≤ ag ∧ ag ≤ 1000) (hM : M.Perm (x :: L)) (hj1 : 0 ≤ j.f1 ∧ j.f1 < 8) (hj2 : 0 ≤ j.f2 ∧ j.f2 ≤ 1000) (hi : 0 ≤ i ∧ i ≤ 1000) (hx1 : 0 ≤ x.f1 ∧ x.f1 < 8) (hx2 : x.f2 = j.f2 + i) : Race ag rm j i M := by
  refine ⟨hM.mem_iff.2 (List.mem_cons_of_mem _ h.mem), fun hD => ?_⟩
  have v1 := tv_val (ag := ag) (x := x) ha hx1 (by omega)
  have v2 := tv_val (ag := ag) (x := j) ha hj1 (by omega)
  have hm2 : 0 ≤ ag * x.f1 := Int.mul_nonneg (by omega) hx1.1
  have hl : lt ag x j = false := by
    rw [lt_false, v1, v2, hx2]
    omega
  have hN : ahead ag j M = ahead ag j L := by
    unfold ahead
    rw [hM.countP_eq, List.countP_cons, hl]
    rfl
  rw [hN]
  exact h.inv hD
/-- One is taken. -/
theorem Race.take {ag rm i : Int} {j : S77} {L : List S77} (h : Race ag rm j i L) (hs : St ag L) (hl : (L.length : Int) ≤ rm) (hne : Heap.g z77 L 0 ≠ j) : Race ag rm j (i + 1) (removeL ag L 0) := by
  have h0 : 0 < L.length := List.length_pos_of_mem h.mem
  obtain ⟨t1, t2, t3⟩ := hs.take h0
  have hg : Heap.g z77 L 0 ∈ L := t2.mem_iff.2 List.mem_cons_self
  have hjr : j ∈ removeL ag L 0 := by
    rcases List.mem_cons.1 (t2.mem_iff.1 h.mem) with e | e
    · exact absurd e.symm hne
    · exact e
  have hlt : lt ag (Heap.g z77 L 0) j = true := by
    have h3 := t3 j h.mem
    rw [lt_false] at h3
    rw [lt_iff]
    have h4 : (Heap.g z77 L 0).f0 ≠ j.f0 := fun e => hne (same_id hs.nd hg h.mem e)
    omega
  have hcount : ahead ag j L = ahead ag j (removeL ag L 0) + 1 := by
    unfold ahead
    rw [t2.countP_eq, List.countP_cons, hlt]
    rfl
  refine ⟨hjr, fun hDi => ?_⟩
  by_cases c : ag * j.f1 < i
  · have := h.inv c
    omega
  · have h5 := ahead_lt (ag := ag) h.mem
    omega
theorem Race.over {ag rm i : Int} {j : S77} {L : List S77} (h : Race ag rm j i L) (ha : 1 ≤ ag) (hj1 : 0 ≤ j.f1 ∧ j.f1 < 8) (hr : 0 ≤ rm) (hi : ag * 8 + rm ≤ i) : False := by
  have h1 : ag * j.f1 ≤ ag * 7 := Int.mul_le_mul_of_nonneg_left (by omega) (by omega)
  have := h.inv (by omega)
  omega
/-- What a law's book holds: numbers below nx, all of them wait; job 0 was leased u times. -/
structure JF (b : Book) (a r nx ct u : Int) : Prop where
  ag : b.ag = a
  rm : b.rm = r
  tr : b.tr = 1
  cte : b.ct = ct
  ls : b.Ls = []
  w : ∀ j ∈ b.Js, j.st = 1
  ids : ∀ j ∈ b.Js, 0 ≤ j.id ∧ j.id < nx
  nxe : nx ≤ (b.Js.length : Int) + ct
  us : ∃ j ∈ b.Js, j.id = 0 ∧ j.us = u
theorem JF.first (a r cl : Int) (hr : 1 ≤ r) (hc : 0 ≤ cl ∧ cl < 8) : addE (b0 a r 1) 0 cl = 0 ∧ JF (addB (b0 a r 1) 0 cl) a r 1 0 0 := by
  refine ⟨addE_0 hc (by simp [b0]) (by show ((0 : Nat) : Int) < r; omega), ⟨rfl, rfl, rfl, rfl, rfl, ?_, ?_, by show (1 : Int) ≤ ((1 : Nat) : Int) + 0; omega, ⟨_, List.mem_append_right _ (List.mem_singleton.2 rfl), rfl, rfl⟩⟩⟩
  · intro j hj
    rw [List.mem_singleton.1 (show j ∈ [_] from hj)]
  · intro j hj
    rw [List.mem_singleton.1 (show j ∈ [_] from hj)]
    exact ⟨Int.le_refl _, by show (0 : Int) < 1; decide⟩
theorem JF.add {b : Book} {a r nx ct u cl : Int} (h : JF b a r nx ct u) (hl : (b.Js.length : Int) < r) (hc : 0 ≤ cl ∧ cl < 8) (h1 : 1 ≤ nx) : addE b nx cl = 0 ∧ JF (addB b nx cl) a r (nx + 1) ct u := by
  refine ⟨addE_0 hc (fun hx => ?_) (by rw [h.rm]; exact hl), ⟨h.ag, h.rm, h.tr, h.cte, h.ls, ?_, ?_, ?_, ?_⟩⟩
  · obtain ⟨j, hj, e⟩ := List.mem_map.1 hx
    have := (h.ids j hj).2
    have e : j.id = nx := e
    omega
  · intro j hj
    rcases List.mem_append.1 hj with hj | hj
    · exact h.w j hj
    · rw [List.mem_singleton.1 hj]
  · intro j hj
    rcases List.mem_append.1 hj with hj | hj
    · have := h.ids j hj; omega
    · rw [List.mem_singleton.1 hj]; exact ⟨by show 0 ≤ nx; omega, by show nx < nx + 1; omega⟩
  · have := h.nxe
    show nx + 1 ≤ ((b.Js ++ [_]).length : Int) + ct
    simp
    omega
  · obtain ⟨j, hj, e⟩ := h.us
    exact ⟨j, List.mem_append_left _ hj, e⟩
theorem JF.used {b : Book} {a r nx ct u : Int} (h : JF b a r nx ct u) (hI : Inv b) : usedOf b 0 = u := by
  obtain ⟨j, hj, e, e2⟩ := h.us
  unfold usedOf
  have := lk_get (κ := jid) hI.nd hj
  rw [show jid j = 0 from e] at this
  rw [this]
  exact e2
/-- The lease that Fetch told. -/
theorem JF.lease {b : Book} {a r nx ct u un : Int} (h : JF b a r nx ct u) : lk gno (fetchB b un).Ls (ct + 1) = some ⟨ct + 1, (fetchJ b).f0, un⟩ := by
  rw [show (fetchB b un).Ls = b.Ls ++ [⟨b.ct + 1, (fetchJ b).f0, un⟩] from rfl, h.ls, h.cte, List.nil_append, lk_cons]
  exact if_pos rfl
theorem fetch_row {b : Book} (hI : Inv b) (h0 : 0 < b.L.length) (un : Int) : dropL (fetchB b un).ag (fetchB b un).L (fetchJ b).f0 = removeL b.ag b.L 0 := by
  show dropL b.ag (removeL b.ag b.L 0) (fetchJ b).f0 = _
  refine drop_no (fun hx => ?_)
  obtain ⟨t1, t2, _⟩ := hI.st.take h0
  have := (ids_perm t2).nodup_iff.1 hI.st.nd
  exact (List.nodup_cons.1 this).1 hx
/-- Another one was taken, and is answered. -/
theorem JF.answer {b : Book} {a r nx ct u un : Int} (h : JF b a r nx ct u) (hI : Inv b) (h0 : 0 < b.L.length) (hne : (fetchJ b).f0 ≠ 0) : JF (goneB (fetchB b un) (fetchJ b).f0) a r nx (ct + 1) u := by
  obtain ⟨_, j, hj, e1, _, _, _⟩ := hI.first h0
  have hlen := rm_len (κ := jid) (l := setJ b.Js (fetchJ b).f0 2 (usedOf b (fetchJ b).f0 + 1)) (by rw [setJ_id]; exact hI.nd) (x := (fetchJ b).f0) (by rw [setJ_id]; exact List.mem_map.2 ⟨j, hj, e1⟩)
  rw [setJ_len] at hlen
  refine ⟨h.ag, h.rm, h.tr, by show b.ct + 1 = ct + 1; rw [h.cte], ?_, ?_, ?_, ?_, ?_⟩
  · show Lst.rm gjo (b.Ls ++ [_]) _ = []
    rw [h.ls]
    apply List.eq_nil_iff_forall_not_mem.2
    intro g hg
    obtain ⟨h3, h4⟩ := rm_mem.1 hg
    rw [List.mem_singleton.1 (show g ∈ [_] from h3)] at h4
    exact h4 rfl
  · intro k hk
    obtain ⟨h3, h4⟩ := rm_mem.1 hk
    rcases setJ_mem h3 with ⟨h5, _⟩ | ⟨k2, _, e, rfl⟩
    · exact h.w k h5
    · exact absurd e h4
  · intro k hk
    obtain ⟨h3, h4⟩ := rm_mem.1 hk
    rcases setJ_mem h3 with ⟨h5, _⟩ | ⟨k2, _, e, rfl⟩
    · exact h.ids k h5
    · exact absurd e h4
  · have := h.nxe
    show nx ≤ ((Lst.rm jid (setJ _ _ _ _) _).length : Int) + (ct + 1)
    omega
  · obtain ⟨k, hk, e, e2⟩ := h.us
    refine ⟨k, rm_mem.2 ⟨?_, by show k.id ≠ _; rw [e]; exact fun e3 => hne e3.symm⟩, e, e2⟩
    have := mem_setJ (id := (fetchJ b).f0) (s := 2) (u := usedOf b (fetchJ b).f0 + 1) hk
    rw [if_neg (by rw [e]; exact fun e3 => hne e3.symm)] at this
    exact this
/-- Job 0 was taken, and fails: it rests. -/
def rested (b : Book) (un : Int) : Book := restB (fetchB b un) 0 1
theorem JF.rest {b : Book} {a r nx ct un : Int} (h : JF b a r nx ct 0) (hI : Inv b) (h0 : 0 < b.L.length) (he : (fetchJ b).f0 = 0) : ∃ j ∈ (rested b un).Js, j.id = 0 ∧ j.st = 3 ∧ j.us = 1 ∧ j.cls = (fetchJ b).f1 ∧ JF (wakeB (rested b un) j) a r nx (ct + 1) 1 := by
  obtain ⟨_, j, hj, e1, e2, _, _⟩ := hI.first h0
  have e1 : j.id = 0 := e1.trans he
  have hm1 := mem_setJ (id := (fetchJ b).f0) (s := 2) (u := usedOf b (fetchJ b).f0 + 1) hj
  rw [if_pos (by rw [he]; exact e1)] at hm1
  have hm2 := mem_setJ (id := 0) (s := 3) (u := 1) hm1
  rw [if_pos (show (⟨j.id, j.cls, 2, _⟩ : Jb).id = 0 from e1)] at hm2
  refine ⟨_, hm2, e1, rfl, rfl, e2, ⟨h.ag, h.rm, h.tr, by show b.ct + 1 = ct + 1; rw [h.cte], ?_, ?_, ?_, ?_, ?_⟩⟩
  · show Lst.rm gjo (b.Ls ++ [_]) 0 = []
    rw [h.ls]
    apply List.eq_nil_iff_forall_not_mem.2
    intro g hg
    obtain ⟨h3, h4⟩ := rm_mem.1 hg
    rw [List.mem_singleton.1 (show g ∈ [_] from h3)] at h4
    exact h4 he
  · intro k hk
    rcases setJ_mem hk with ⟨h3, h4⟩ | ⟨k2, _, e, rfl⟩
    · have h4 : k.id ≠ 0 := fun e => h4 (e.trans e1.symm)
      rcases setJ_mem h3 with ⟨h5, _⟩ | ⟨k2, _, e, rfl⟩
      · rcases setJ_mem h5 with ⟨h6, _⟩ | ⟨k3, _, e, rfl⟩
        · exact h.w k h6
        · exact absurd (e.trans he) h4
      · exact absurd e h4
    · rfl
  · intro k hk
    rcases setJ_mem hk with ⟨h3, h4⟩ | ⟨k2, h3, e, rfl⟩
    · have h4 : k.id ≠ 0 := fun e => h4 (e.trans e1.symm)
      rcases setJ_mem h3 with ⟨h5, _⟩ | ⟨k2, _, e, rfl⟩
      · rcases setJ_mem h5 with ⟨h6, _⟩ | ⟨k3, _, e, rfl⟩
        · exact h.ids k h6
        · exact absurd (e.trans he) h4
      · exact absurd e h4
    · have h7 := h.ids j hj
      have e : k2.id = j.id := e
      show 0 ≤ k2.id ∧ k2.id < nx
      omega
  · have h5 := h.nxe
    show nx ≤ ((setJ (setJ (setJ _ _ _ _) _ _ _) _ _ _).length : Int) + (ct + 1)
    rw [setJ_len, setJ_len, setJ_len]
    omega
  · have hm3 := mem_setJ (id := j.id) (s := 1) (u := 1) hm2
    rw [if_pos rfl] at hm3
    exact ⟨_, hm3, e1, rfl⟩
theorem JF.race_add {b : Book} {a r nx ct u cl i : Int} {jq : S77} (h : JF b a r nx ct u) (hI : Inv b) (hE : addE b nx cl = 0) (hc : 0 ≤ cl ∧ cl < 8) (hR : Race a r jq i b.L) (hj1 : 0 ≤ jq.f1 ∧ jq.f1 < 8) (hj2 : 0 ≤ jq.f2 ∧ jq.f2 ≤ 1000) (hi : 0 ≤ i ∧ i ≤ 1000) (hct : jq.f2 + i = ct) : Race a r jq i (addB b nx cl).L := by
  obtain ⟨_, h2, _⟩ := addE_ok hE
  obtain ⟨_, k2⟩ := hI.st.push (x := ⟨nx, cl, b.ct⟩) (hI.not_in h2)
  refine hR.push (by rw [← h.ag]; exact hI.ag) k2 hj1 hj2 hi hc ?_
  show b.ct = jq.f2 + i
  rw [h.cte, hct]
theorem JF.race_take {b : Book} {a r nx ct u i un : Int} {jq : S77} (h : JF b a r nx ct u) (hI : Inv b) (hR : Race a r jq i b.L) (hj : jq.f0 = 0) (hl : (b.Js.length : Int) = r) (hne : (fetchJ b).f0 ≠ 0) : Race a r jq (i + 1) (goneB (fetchB b un) (fetchJ b).f0).L := by
  have h0 : 0 < b.L.length := List.length_pos_of_mem hR.mem
  show Race a r jq (i + 1) (dropL (fetchB b un).ag (fetchB b un).L (fetchJ b).f0)
  rw [fetch_row hI h0 un]
  have h2 := hI.len
  have hst := hI.st
  rw [h.ag] at hst ⊢
  exact hR.take hst (by omega) (fun e => hne (by
    show (Heap.g z77 b.L 0).f0 = 0
    rw [e]
    exact hj))
theorem JF.wake_mem {b : Book} {a r nx ct u un : Int} {j : Jb} (h : JF b a r nx ct u) (hI : Inv (rested b un)) (hj : j ∈ (rested b un).Js) (h0 : j.id = 0) (hs : j.st = 3) : (⟨0, j.cls, ct + 1⟩ : S77) ∈ (wakeB (rested b un) j).L := by
  obtain ⟨_, k2⟩ := hI.st.push (x := ⟨j.id, j.cls, (rested b un).ct⟩) (hI.not_waits hj (by omega))
  have h5 : (⟨0, j.cls, ct + 1⟩ : S77) = ⟨j.id, j.cls, (rested b un).ct⟩ := by
    rw [h0, show (rested b un).ct = b.ct + 1 from rfl, h.cte]
  rw [h5]
  exact k2.mem_iff.2 List.mem_cons_self
theorem first_is {b : Book} (hI : Inv b) {jq : S77} (hm : jq ∈ b.L) (h0 : (fetchJ b).f0 = jq.f0) : fetchJ b = jq := by
  have h1 := (hI.first (List.length_pos_of_mem hm)).1
  exact same_id hI.st.nd h1 hm h0
end Go.Proofs.Ytfkebbkfmchnaaa.Bk
