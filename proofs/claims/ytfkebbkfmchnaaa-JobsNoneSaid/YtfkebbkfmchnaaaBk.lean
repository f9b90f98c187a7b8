/- A book of jobs, plain: the waiting ones, all that are open, their leases. Conditions: none. -/
import Derived.Test.YtfkebbkfmchnaaaSt
import Derived.Test.YtfkebbkfmchnaaaLst
set_option linter.unusedVariables false
namespace Go.Proofs.Ytfkebbkfmchnaaa.Bk
open Go.RowKit Go.Proofs.Ytfkebbkfmchnaaa.PBase Go.Proofs.Ytfkebbkfmchnaaa.Heap Go.Proofs.Ytfkebbkfmchnaaa.Ln Go.Proofs.Ytfkebbkfmchnaaa.Lst
/-- A book. -/
structure Book where
  ag : Int
  rm : Int
  tr : Int
  ct : Int
  L : List S77
  Js : List Jb
  Ls : List Gr
/-- How a job may stand. -/
def Ok (tr : Int) (j : Jb) : Prop := (0 ≤ j.cls ∧ j.cls < 8) ∧ ((j.st = 1 ∧ 0 ≤ j.us ∧ j.us ≤ tr) ∨ (j.st = 2 ∧ 1 ≤ j.us ∧ j.us ≤ tr + 1) ∨ (j.st = 3 ∧ 1 ≤ j.us ∧ j.us ≤ tr))
structure Inv (b : Book) : Prop where
  ag : 1 ≤ b.ag ∧ b.ag ≤ 1000
  rm : 0 ≤ b.rm ∧ b.rm ≤ 1000
  tr : 0 ≤ b.tr ∧ b.tr ≤ 9
  ct : 0 ≤ b.ct
  st : St b.ag b.L
  nd : (b.Js.map jid).Nodup
  w : ∀ x ∈ b.L, ∃ j ∈ b.Js, j.id = x.f0 ∧ j.cls = x.f1 ∧ j.st = 1
  w2 : ∀ j ∈ b.Js, j.st = 1 → j.id ∈ ids b.L
  ok : ∀ j ∈ b.Js, Ok b.tr j
  wf : ∀ j ∈ b.Js, (Lit.int .i64 j.id).wf = true
  le : (b.Js.length : Int) ≤ b.rm
  gn : (b.Ls.map gno).Nodup
  gj : (b.Ls.map gjo).Nodup
  g : ∀ g ∈ b.Ls, 1 ≤ g.n ∧ g.n ≤ b.ct ∧ ∃ j ∈ b.Js, j.id = g.j ∧ j.st = 2
  g2 : ∀ j ∈ b.Js, j.st = 2 → ∃ g ∈ b.Ls, g.j = j.id
/-- A job stands otherwise. -/
def setJ (l : List Jb) (id s u : Int) : List Jb := l.map (fun j => if j.id = id then ⟨j.id, j.cls, s, u⟩ else j)
theorem setJ_id (l : List Jb) (id s u : Int) : (setJ l id s u).map jid = l.map jid := by
  unfold setJ
  rw [List.map_map]
  apply List.map_congr_left
  intro a _
  show jid (if _ then _ else _) = _
  split <;> rfl
theorem setJ_len (l : List Jb) (id s u : Int) : (setJ l id s u).length = l.length := by simp [setJ]
theorem setJ_mem {l : List Jb} {id s u : Int} {a : Jb} (h : a ∈ setJ l id s u) : (a ∈ l ∧ a.id ≠ id) ∨ ∃ j ∈ l, j.id = id ∧ a = ⟨j.id, j.cls, s, u⟩ := by
  obtain ⟨j, hj, rfl⟩ := List.mem_map.1 h
  by_cases e : j.id = id
  · rw [if_pos e]; exact .inr ⟨j, hj, e, rfl⟩
  · rw [if_neg e]; exact .inl ⟨hj, e⟩
theorem mem_setJ {l : List Jb} {id s u : Int} {j : Jb} (h : j ∈ l) : (if j.id = id then (⟨j.id, j.cls, s, u⟩ : Jb) else j) ∈ setJ l id s u := List.mem_map.2 ⟨j, h, rfl⟩
theorem lk_setJ (l : List Jb) (id s u x : Int) : lk jid (setJ l id s u) x = (lk jid l x).map (fun j => if j.id = id then ⟨j.id, j.cls, s, u⟩ else j) := lk_map (fun a => by show jid (if _ then _ else _) = _; split <;> rfl) l x
def b0 (ag rm tr : Int) : Book := ⟨ag, rm, tr, 0, [], [], []⟩
theorem Inv.b0 {ag rm tr : Int} (h1 : 1 ≤ ag ∧ ag ≤ 1000) (h2 : 0 ≤ rm ∧ rm ≤ 1000) (h3 : 0 ≤ tr ∧ tr ≤ 9) : Inv (b0 ag rm tr) :=
  ⟨h1, h2, h3, Int.le_refl _, St.nil ag, List.nodup_nil, (fun _ h => nomatch h), (fun _ h => nomatch h), (fun _ h => nomatch h), (fun _ h => nomatch h), h2.1, List.nodup_nil, List.nodup_nil, (fun _ h => nomatch h), (fun _ h => nomatch h)⟩
section
variable {b : Book}
/-- Not more wait than are open. -/
theorem Inv.len (h : Inv b) : b.L.length ≤ b.Js.length := by
  have e0 : (b.Js.map jid).length = b.Js.length := by simp
  rw [← ids_len b.L, ← e0]
  refine nd_len h.st.nd (fun x hx => ?_)
  obtain ⟨y, hy, rfl⟩ := List.mem_map.1 hx
  obtain ⟨j, hj, e, _⟩ := h.w y hy
  exact List.mem_map.2 ⟨j, hj, e⟩
theorem Inv.len_lt (h : Inv b) {j : Jb} (hj : j ∈ b.Js) (hs : j.st ≠ 1) : b.L.length < b.Js.length := by
  have e : ((j.id :: ids b.L).length) ≤ (b.Js.map jid).length := by
    refine nd_len (List.nodup_cons.2 ⟨fun hx => ?_, h.st.nd⟩) (fun x hx => ?_)
    · obtain ⟨y, hy, e⟩ := List.mem_map.1 hx
      obtain ⟨k, hk, e2, _, e3⟩ := h.w y hy
      have := lk_same (κ := jid) h.nd hk hj (by show k.id = j.id; rw [e2, e])
      rw [this] at e3
      exact hs e3
    · rcases List.mem_cons.1 hx with rfl | hx
      · exact List.mem_map.2 ⟨j, hj, rfl⟩
      · obtain ⟨y, hy, rfl⟩ := List.mem_map.1 hx
        obtain ⟨k, hk, e, _⟩ := h.w y hy
        exact List.mem_map.2 ⟨k, hk, e⟩
  simp only [List.length_cons, List.length_map, ids_len] at e
  omega
/-! ### Add -/
def addE (b : Book) (id cl : Int) : Int := if ¬ (0 ≤ cl ∧ cl < 8) then 1 else if id ∈ b.Js.map jid then 8 else if b.rm ≤ (b.Js.length : Int) then 10 else 0
def addB (b : Book) (id cl : Int) : Book := { b with Js := b.Js ++ [⟨id, cl, 1, 0⟩], L := pushL b.ag b.L ⟨id, cl, b.ct⟩ }
theorem addE_ok {id cl : Int} (h : addE b id cl = 0) : (0 ≤ cl ∧ cl < 8) ∧ id ∉ b.Js.map jid ∧ (b.Js.length : Int) < b.rm := by
  unfold addE at h
  split at h
  · cases h
  · rename_i h1
    split at h
    · cases h
    · rename_i h2
      split at h
      · cases h
      · exact ⟨Classical.not_not.1 h1, h2, by omega⟩
theorem Inv.not_in (h : Inv b) {id : Int} (hi : id ∉ b.Js.map jid) : id ∉ ids b.L := by
  intro hx
  obtain ⟨y, hy, rfl⟩ := List.mem_map.1 hx
  obtain ⟨j, hj, e, _⟩ := h.w y hy
  exact hi (List.mem_map.2 ⟨j, hj, e⟩)
theorem Inv.add_put (h : Inv b) {id cl : Int} (hE : addE b id cl = 0) : putE b.L b.rm id cl = 0 ∧ putL b.ag b.rm b.ct b.L id cl = pushL b.ag b.L ⟨id, cl, b.ct⟩ := by
  obtain ⟨h1, h2, h3⟩ := addE_ok hE
  have h4 := h.len
  have h5 := put_ok (rm := b.rm) h1 (h.not_in h2) (by omega)
  exact ⟨h5, putL_ok h5⟩
theorem Inv.add (h : Inv b) {id cl : Int} (hE : addE b id cl = 0) (hw : (Lit.int .i64 id).wf = true) : Inv (addB b id cl) := by
  obtain ⟨h1, h2, h3⟩ := addE_ok hE
  obtain ⟨k1, k2⟩ := h.st.push (x := ⟨id, cl, b.ct⟩) (h.not_in h2)
  refine ⟨h.ag, h.rm, h.tr, h.ct, k1, ?_, ?_, ?_, ?_, ?_, ?_, h.gn, h.gj, ?_, ?_⟩
  · show ((b.Js ++ [_]).map jid).Nodup
    rw [List.map_append, List.nodup_append]
    refine ⟨h.nd, by simp, fun x hx y hy => ?_⟩
    simp only [List.map_cons, List.map_nil, List.mem_singleton] at hy
    subst hy
    rintro rfl
    exact h2 hx
  · intro x hx
    rcases List.mem_cons.1 (k2.mem_iff.1 hx) with rfl | hx
    · exact ⟨⟨id, cl, 1, 0⟩, List.mem_append_right _ (List.mem_singleton.2 rfl), rfl, rfl, rfl⟩
    · obtain ⟨j, hj, e⟩ := h.w x hx
      exact ⟨j, List.mem_append_left _ hj, e⟩
  · intro j hj hs
    rw [show (ids (addB b id cl).L) = ids (pushL b.ag b.L ⟨id, cl, b.ct⟩) from rfl, (ids_perm k2).mem_iff]
    rcases List.mem_append.1 hj with hj | hj
    · exact List.mem_cons_of_mem _ (h.w2 j hj hs)
    · rw [List.mem_singleton.1 hj]; exact List.mem_cons_self
  · intro j hj
    rcases List.mem_append.1 hj with hj | hj
    · exact h.ok j hj
    · rw [List.mem_singleton.1 hj]; exact ⟨h1, .inl ⟨rfl, Int.le_refl _, h.tr.1⟩⟩
  · intro j hj
    rcases List.mem_append.1 hj with hj | hj
    · exact h.wf j hj
    · rw [List.mem_singleton.1 hj]; exact hw
  · show ((b.Js ++ [_]).length : Int) ≤ b.rm
    simp
    omega
  · intro g hg
    obtain ⟨e1, e2, j, hj, e3⟩ := h.g g hg
    exact ⟨e1, e2, j, List.mem_append_left _ hj, e3⟩
  · intro j hj hs
    rcases List.mem_append.1 hj with hj | hj
    · exact h.g2 j hj hs
    · rw [List.mem_singleton.1 hj] at hs; cases hs
/-! ### Fetch -/
def fetchJ (b : Book) : S77 := Heap.g z77 b.L 0
def usedOf (b : Book) (id : Int) : Int := ((lk jid b.Js id).map (fun j => j.us)).getD 0
def fetchB (b : Book) (un : Int) : Book := { b with Js := setJ b.Js (fetchJ b).f0 2 (usedOf b (fetchJ b).f0 + 1), L := removeL b.ag b.L 0, ct := b.ct + 1, Ls := b.Ls ++ [⟨b.ct + 1, (fetchJ b).f0, un⟩] }
theorem Inv.first (h : Inv b) (h0 : 0 < b.L.length) : fetchJ b ∈ b.L ∧ ∃ j ∈ b.Js, j.id = (fetchJ b).f0 ∧ j.cls = (fetchJ b).f1 ∧ j.st = 1 ∧ lk jid b.Js (fetchJ b).f0 = some j := by
  have h1 : fetchJ b ∈ b.L := by
    unfold fetchJ
    rw [g_lt z77 h0]
    exact List.getElem_mem h0
  obtain ⟨j, hj, e1, e2, e3⟩ := h.w _ h1
  refine ⟨h1, j, hj, e1, e2, e3, ?_⟩
  rw [← e1]
  exact lk_get h.nd hj
theorem Inv.no_lease (h : Inv b) {j : Jb} (hj : j ∈ b.Js) (hs : j.st ≠ 2) : j.id ∉ b.Ls.map gjo := by
  intro hx
  obtain ⟨g, hg, e⟩ := List.mem_map.1 hx
  obtain ⟨_, _, k, hk, e2, e3⟩ := h.g g hg
  have := lk_same (κ := jid) h.nd hk hj (by show k.id = j.id; rw [e2]; exact e)
  rw [this] at e3
  exact hs e3
theorem Inv.fetch (h : Inv b) (h0 : 0 < b.L.length) (un : Int) : Inv (fetchB b un) := by
  obtain ⟨h1, j, hj, e1, e2, e3, hk⟩ := h.first h0
  obtain ⟨t1, t2, _⟩ := h.st.take h0
  have hu : usedOf b (fetchJ b).f0 = j.us := by unfold usedOf; rw [hk]; rfl
  have hok := h.ok j hj
  have hnl := h.no_lease hj (by omega)
  refine ⟨h.ag, h.rm, h.tr, by have := h.ct; show 0 ≤ b.ct + 1; omega, t1, ?_, ?_, ?_, ?_, ?_, ?_, ?_, ?_, ?_, ?_⟩
  · show ((setJ _ _ _ _).map jid).Nodup
    rw [setJ_id]; exact h.nd
  · intro x hx
    have hx2 : x ∈ b.L := t2.mem_iff.2 (List.mem_cons_of_mem _ hx)
    have hne : x.f0 ≠ (fetchJ b).f0 := fun e => by
      have := (ids_perm t2).nodup_iff.1 h.st.nd
      refine (List.nodup_cons.1 this).1 ?_
      show (fetchJ b).f0 ∈ _
      rw [← e]
      exact mem_ids hx
    obtain ⟨k, hk, q1, q2, q3⟩ := h.w x hx2
    have := mem_setJ (id := (fetchJ b).f0) (s := 2) (u := usedOf b (fetchJ b).f0 + 1) hk
    rw [if_neg (by rw [q1]; exact hne)] at this
    exact ⟨k, this, q1, q2, q3⟩
  · intro k hk hs
    rcases setJ_mem hk with ⟨hk, hn⟩ | ⟨k2, hk2, _, rfl⟩
    · have := (ids_perm t2).mem_iff.1 (h.w2 k hk hs)
      rcases List.mem_cons.1 this with e | e
      · exact absurd e hn
      · exact e
    · cases hs
  · intro k hk
    rcases setJ_mem hk with ⟨hk, hn⟩ | ⟨k2, hk2, e, rfl⟩
    · exact h.ok k hk
    · obtain rfl := lk_same (κ := jid) h.nd hk2 hj (by show k2.id = j.id; rw [e, e1])
      refine ⟨hok.1, .inr (.inl ⟨rfl, ?_, ?_⟩)⟩
      · show 1 ≤ usedOf b _ + 1
        rw [hu]
        have := hok.2
        omega
      · show usedOf b _ + 1 ≤ b.tr + 1
        rw [hu]
        have := hok.2
        omega
  · intro k hk
    rcases setJ_mem hk with ⟨hk, hn⟩ | ⟨k2, hk2, e, rfl⟩
    · exact h.wf k hk
    · exact h.wf k2 hk2
  · show ((setJ _ _ _ _).length : Int) ≤ b.rm
    rw [setJ_len]; exact h.le
  · show ((b.Ls ++ [_]).map gno).Nodup
    rw [List.map_append, List.nodup_append]
    refine ⟨h.gn, by simp, fun x hx y hy => ?_⟩
    simp only [List.map_cons, List.map_nil, List.mem_singleton] at hy
    subst hy
    rintro rfl
    obtain ⟨g, hg, e⟩ := List.mem_map.1 hx
    have := (h.g g hg).2.1
    have e : g.n = b.ct + 1 := e
    omega
  · show ((b.Ls ++ [_]).map gjo).Nodup
    rw [List.map_append, List.nodup_append]
    refine ⟨h.gj, by simp, fun x hx y hy => ?_⟩
    simp only [List.map_cons, List.map_nil, List.mem_singleton] at hy
    subst hy
    rintro rfl
    exact hnl (by rw [e1]; exact hx)
  · intro g hg
    rcases List.mem_append.1 hg with hg | hg
    · obtain ⟨q1, q2, k, hk, q3, q4⟩ := h.g g hg
      have hne : k.id ≠ (fetchJ b).f0 := fun e => by
        obtain rfl := lk_same (κ := jid) h.nd hk hj (by show k.id = j.id; rw [e, e1])
        omega
      have := mem_setJ (id := (fetchJ b).f0) (s := 2) (u := usedOf b (fetchJ b).f0 + 1) hk
      rw [if_neg hne] at this
      exact ⟨q1, by show g.n ≤ b.ct + 1; omega, k, this, q3, q4⟩
    · rw [List.mem_singleton.1 hg]
      have := mem_setJ (id := (fetchJ b).f0) (s := 2) (u := usedOf b (fetchJ b).f0 + 1) hj
      rw [if_pos e1] at this
      have h5 := h.ct
      exact ⟨by show 1 ≤ b.ct + 1; omega, Int.le_refl _, _, this, e1, rfl⟩
  · intro k hk hs
    rcases setJ_mem hk with ⟨hk, hn⟩ | ⟨k2, hk2, e, rfl⟩
    · obtain ⟨g, hg, e⟩ := h.g2 k hk hs
      exact ⟨g, List.mem_append_left _ hg, e⟩
    · exact ⟨_, List.mem_append_right _ (List.mem_singleton.2 rfl), e.symm⟩
/-! ### A job is open no more -/
/-- Job id goes, whatever it did: from the queue if it waits, its lease if it has one. -/
def goneB (b : Book) (id : Int) : Book := { b with Js := Lst.rm jid b.Js id, L := dropL b.ag b.L id, Ls := Lst.rm gjo b.Ls id }
theorem Inv.gone (h : Inv b) (id : Int) : Inv (goneB b id) := by
  have hst : St b.ag (dropL b.ag b.L id) ∧ ∀ x, x ∈ dropL b.ag b.L id ↔ x ∈ b.L ∧ x.f0 ≠ id := by
    by_cases hin : id ∈ ids b.L
    · obtain ⟨y, hy, e, k1, k2⟩ := h.st.drop hin
      refine ⟨k1, fun x => ?_⟩
      have hnd := (ids_perm k2).nodup_iff.1 h.st.nd
      have hnd := (List.nodup_cons.1 hnd).1
      rw [k2.mem_iff, List.mem_cons]
      constructor
      · intro hx
        refine ⟨.inr hx, fun e2 => hnd ?_⟩
        have h3 := mem_ids hx
        rw [e2] at h3
        show y.f0 ∈ _
        rw [e]
        exact h3
      · rintro ⟨rfl | hx, hne⟩
        · exact absurd e hne
        · exact hx
    · rw [drop_no hin]
      refine ⟨h.st, fun x => ⟨fun hx => ⟨hx, fun e => hin (e ▸ mem_ids hx)⟩, fun hx => hx.1⟩⟩
  refine ⟨h.ag, h.rm, h.tr, h.ct, hst.1, rm_nd h.nd _, ?_, ?_, fun j hj => h.ok j (rm_mem.1 hj).1, fun j hj => h.wf j (rm_mem.1 hj).1, ?_, rm_nd h.gn _, rm_nd h.gj _, ?_, ?_⟩
  · intro x hx
    obtain ⟨hx, hne⟩ := (hst.2 x).1 hx
    obtain ⟨j, hj, e, e2⟩ := h.w x hx
    exact ⟨j, rm_mem.2 ⟨hj, by show j.id ≠ id; rw [e]; exact hne⟩, e, e2⟩
  · intro j hj hs
    obtain ⟨hj, hne⟩ := rm_mem.1 hj
    obtain ⟨x, hx, e⟩ := List.mem_map.1 (h.w2 j hj hs)
    have e : x.f0 = j.id := e
    rw [← e]
    exact mem_ids ((hst.2 x).2 ⟨hx, by rw [e]; exact hne⟩)
  · have h1 := h.le
    have h2 : (Lst.rm jid b.Js id).length ≤ b.Js.length := List.length_filter_le _ _
    show ((Lst.rm jid b.Js id).length : Int) ≤ b.rm
    omega
  · intro g hg
    obtain ⟨hg, hne⟩ := rm_mem.1 hg
    obtain ⟨q1, q2, k, hk, q3, q4⟩ := h.g g hg
    exact ⟨q1, q2, k, rm_mem.2 ⟨hk, by show k.id ≠ id; rw [q3]; exact hne⟩, q3, q4⟩
  · intro j hj hs
    obtain ⟨hj, hne⟩ := rm_mem.1 hj
    obtain ⟨g, hg, e⟩ := h.g2 j hj hs
    exact ⟨g, rm_mem.2 ⟨hg, by show g.j ≠ id; rw [e]; exact hne⟩, e⟩
theorem Inv.not_waits (h : Inv b) {j : Jb} (hj : j ∈ b.Js) (hs : j.st ≠ 1) : j.id ∉ ids b.L := by
  intro hx
  obtain ⟨y, hy, e⟩ := List.mem_map.1 hx
  obtain ⟨k, hk, e2, _, e3⟩ := h.w y hy
  have := lk_same (κ := jid) h.nd hk hj (by show k.id = j.id; rw [e2]; exact e)
  rw [this] at e3
  exact hs e3
/-! ### A lease that fails: its job rests -/
def restB (b : Book) (id us : Int) : Book := { b with Js := setJ b.Js id 3 us, Ls := Lst.rm gjo b.Ls id }
theorem Inv.rest (h : Inv b) {j : Jb} (hj : j ∈ b.Js) (hs : j.st = 2) (hu : j.us ≤ b.tr) : Inv (restB b j.id j.us) := by
  have hok := h.ok j hj
  refine ⟨h.ag, h.rm, h.tr, h.ct, h.st, ?_, ?_, ?_, ?_, ?_, ?_, rm_nd h.gn _, rm_nd h.gj _, ?_, ?_⟩
  · show ((setJ _ _ _ _).map jid).Nodup
    rw [setJ_id]; exact h.nd
  · intro x hx
    obtain ⟨k, hk, q1, q2, q3⟩ := h.w x hx
    have := mem_setJ (id := j.id) (s := 3) (u := j.us) hk
    rw [if_neg (fun e => by
      obtain rfl := lk_same (κ := jid) h.nd hk hj e
      omega)] at this
    exact ⟨k, this, q1, q2, q3⟩
  · intro k hk hs2
    rcases setJ_mem hk with ⟨hk, hn⟩ | ⟨k2, hk2, _, rfl⟩
    · exact h.w2 k hk hs2
    · cases hs2
  · intro k hk
    rcases setJ_mem hk with ⟨hk, hn⟩ | ⟨k2, hk2, e, rfl⟩
    · exact h.ok k hk
    · obtain rfl := lk_same (κ := jid) h.nd hk2 hj e
      have := hok.2
      exact ⟨hok.1, .inr (.inr ⟨rfl, by show 1 ≤ k2.us; omega, hu⟩)⟩
  · intro k hk
    rcases setJ_mem hk with ⟨hk, hn⟩ | ⟨k2, hk2, e, rfl⟩
    · exact h.wf k hk
    · exact h.wf k2 hk2
  · show ((setJ _ _ _ _).length : Int) ≤ b.rm
    rw [setJ_len]; exact h.le
  · intro g hg
    obtain ⟨hg, hne⟩ := rm_mem.1 hg
    obtain ⟨q1, q2, k, hk, q3, q4⟩ := h.g g hg
    have := mem_setJ (id := j.id) (s := 3) (u := j.us) hk
    rw [if_neg (by rw [q3]; exact hne)] at this
    exact ⟨q1, q2, k, this, q3, q4⟩
  · intro k hk hs2
    rcases setJ_mem hk with ⟨hk, hn⟩ | ⟨k2, hk2, e, rfl⟩
    · obtain ⟨g, hg, e⟩ := h.g2 k hk hs2
      exact ⟨g, rm_mem.2 ⟨hg, by show g.j ≠ j.id; rw [e]; exact hn⟩, e⟩
    · cases hs2
/-! ### A job that rested waits again -/
def wakeB (b : Book) (j : Jb) : Book := { b with Js := setJ b.Js j.id 1 j.us, L := pushL b.ag b.L ⟨j.id, j.cls, b.ct⟩ }
theorem Inv.wake_put (h : Inv b) {j : Jb} (hj : j ∈ b.Js) (hs : j.st = 3) : putE b.L b.rm j.id j.cls = 0 ∧ putL b.ag b.rm b.ct b.L j.id j.cls = pushL b.ag b.L ⟨j.id, j.cls, b.ct⟩ := by
  have h1 := h.len_lt hj (by omega)
  have h2 := h.le
  have h5 := put_ok (rm := b.rm) (h.ok j hj).1 (h.not_waits hj (by omega)) (by omega)
  exact ⟨h5, putL_ok h5⟩
theorem Inv.wake (h : Inv b) {j : Jb} (hj : j ∈ b.Js) (hs : j.st = 3) : Inv (wakeB b j) := by
  have hok := h.ok j hj
  obtain ⟨k1, k2⟩ := h.st.push (x := ⟨j.id, j.cls, b.ct⟩) (h.not_waits hj (by omega))
  refine ⟨h.ag, h.rm, h.tr, h.ct, k1, ?_, ?_, ?_, ?_, ?_, ?_, h.gn, h.gj, ?_, ?_⟩
  · show ((setJ _ _ _ _).map jid).Nodup
    rw [setJ_id]; exact h.nd
  · intro x hx
    rcases List.mem_cons.1 (k2.mem_iff.1 hx) with rfl | hx
    · have := mem_setJ (id := j.id) (s := 1) (u := j.us) hj
      rw [if_pos rfl] at this
      exact ⟨_, this, rfl, rfl, rfl⟩
    · obtain ⟨k, hk, q1, q2, q3⟩ := h.w x hx
      have := mem_setJ (id := j.id) (s := 1) (u := j.us) hk
      rw [if_neg (fun e => by
        obtain rfl := lk_same (κ := jid) h.nd hk hj e
        omega)] at this
      exact ⟨k, this, q1, q2, q3⟩
  · intro k hk hs2
    rw [show (ids (wakeB b j).L) = ids (pushL b.ag b.L ⟨j.id, j.cls, b.ct⟩) from rfl, (ids_perm k2).mem_iff]
    rcases setJ_mem hk with ⟨hk, hn⟩ | ⟨k2, hk2, e, rfl⟩
    · exact List.mem_cons_of_mem _ (h.w2 k hk hs2)
    · rw [show (⟨k2.id, k2.cls, 1, j.us⟩ : Jb).id = j.id from e]; exact List.mem_cons_self
  · intro k hk
    rcases setJ_mem hk with ⟨hk, hn⟩ | ⟨k3, hk2, e, rfl⟩
    · exact h.ok k hk
    · obtain rfl := lk_same (κ := jid) h.nd hk2 hj e
      have := hok.2
      exact ⟨hok.1, .inl ⟨rfl, by show 0 ≤ k3.us; omega, by show k3.us ≤ b.tr; omega⟩⟩
  · intro k hk
    rcases setJ_mem hk with ⟨hk, hn⟩ | ⟨k2, hk2, e, rfl⟩
    · exact h.wf k hk
    · exact h.wf k2 hk2
  · show ((setJ _ _ _ _).length : Int) ≤ b.rm
    rw [setJ_len]; exact h.le
  · intro g hg
    obtain ⟨q1, q2, k, hk, q3, q4⟩ := h.g g hg
    have := mem_setJ (id := j.id) (s := 1) (u := j.us) hk
    rw [if_neg (fun e => by
      obtain rfl := lk_same (κ := jid) h.nd hk hj e
      omega)] at this
    exact ⟨q1, q2, k, this, q3, q4⟩
  · intro k hk hs2
    rcases setJ_mem hk with ⟨hk, hn⟩ | ⟨k2, hk2, e, rfl⟩
    · exact h.g2 k hk hs2
    · cases hs2
end
end Go.Proofs.Ytfkebbkfmchnaaa.Bk
