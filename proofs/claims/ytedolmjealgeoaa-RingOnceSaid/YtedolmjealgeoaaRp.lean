/- What lies in a ring, plain: putting, dropping. Conditions: distinct numbers. -/
import Derived.Test.YtedolmjealgeoaaRi
set_option linter.unusedVariables false
namespace Go.Proofs.Ytedolmjealgeoaa.Rg
open Go.RowKit Go.Maps Go.Proofs.Ytedolmjealgeoaa.PBase Go.Proofs.Ytedolmjealgeoaa.Cat Go.Proofs.YtedolmjealgeoaaW.PrintWords Go.Proofs.YtedolmjealgeoaaW.PrintLast Go.Proofs.YtedolmjealgeoaaW.PrintMore
theorem slotOf_cons (l : S114) (T : List S114) (x : Int) : slotOf (l :: T) x = if l.f1.f0 = x then some l.f0 else slotOf T x := by
  unfold slotOf
  by_cases h : l.f1.f0 = x
  · rw [List.find?_cons_of_pos (by simpa using h), if_pos h]
    rfl
  · rw [List.find?_cons_of_neg (by simpa using h), if_neg h]
theorem slotOf_none {T : List S114} {x : Int} : slotOf T x = none ↔ x ∉ tid T := by
  induction T with
  | nil => simp [slotOf, tid]
  | cons l T ih =>
    rw [slotOf_cons]
    by_cases h : l.f1.f0 = x
    · rw [if_pos h]
      simp [tid, h]
    · rw [if_neg h, ih]
      simp [tid, Ne.symm h]
theorem slotOf_mem {T : List S114} (h : (tid T).Nodup) {l : S114} (hl : l ∈ T) : slotOf T l.f1.f0 = some l.f0 := by
  induction T with
  | nil => exact absurd hl List.not_mem_nil
  | cons a T ih =>
    rw [slotOf_cons]
    have hn := List.nodup_cons.1 h
    rcases List.mem_cons.1 hl with rfl | hl
    · rw [if_pos rfl]
    · have : a.f1.f0 ≠ l.f1.f0 := fun e => hn.1 (List.mem_map.2 ⟨l, hl, e.symm⟩)
      rw [if_neg this, ih hn.2 hl]
theorem slotOf_get {T : List S114} {x j : Int} (h : slotOf T x = some j) : ∃ l ∈ T, l.f1.f0 = x ∧ l.f0 = j := by
  unfold slotOf at h
  obtain ⟨l, h1, h2⟩ := Option.map_eq_some_iff.1 h
  exact ⟨l, List.mem_of_find?_eq_some h1, by simpa using List.find?_some h1, h2⟩
theorem tid_in {T : List S114} {x : Int} : x ∈ tid T ↔ ∃ l ∈ T, l.f1.f0 = x := by simp [tid]
theorem slotOf_perm {T U : List S114} (h : T.Perm U) (hn : (tid T).Nodup) (x : Int) : slotOf T x = slotOf U x := by
  have hn2 : (tid U).Nodup := (h.map _).nodup_iff.1 hn
  by_cases hx : x ∈ tid T
  · obtain ⟨l, hl, rfl⟩ := tid_in.1 hx
    rw [slotOf_mem hn hl, slotOf_mem hn2 (h.mem_iff.1 hl)]
  · rw [slotOf_none.2 hx, slotOf_none.2 (fun e => hx ((h.map _).mem_iff.2 e))]
theorem PT.perm {T U : List S114} (p : PT T) (h : T.Perm U) : PT U := ⟨(h.map _).nodup_iff.1 p.nd, fun l hl => p.sl l (h.mem_iff.2 hl), fun l hl => p.wf l (h.mem_iff.2 hl)⟩
theorem atS_perm {T U : List S114} (h : T.Perm U) (j : Int) : (atS T j).Perm (atS U j) := (h.filter _).map _
theorem atS_nil {T U : List S114} (h : T.Perm U) (j : Int) : decide (atS T j ≠ []) = decide (atS U j ≠ []) := by
  rw [decide_eq_decide]
  have := (atS_perm h j)
  constructor
  · intro h1 h2
    rw [h2, List.perm_nil] at this
    exact h1 this
  · intro h1 h2
    rw [h2] at this
    exact h1 (List.nil_perm.1 this)
theorem RI.perm {N : Nat} {F : Nat → Prop} {W : World} {R : Nat} {T U : List S114} (h : RI N F W R T) (hp : T.Perm U) : RI N F W R U := by
  obtain ⟨h1, ⟨m, fu, vs, a1, a2, a3, a4, a5, a6, a7, a8⟩, h3, h4⟩ := h
  refine ⟨h1.perm hp, ⟨m, fu, vs, a1, ?_, a3, fun j hj => (a4 j hj).trans (atS_nil hp j), fun j hj => ?_, a6, a7, a8⟩, h3, h4⟩
  · rw [← hp.length_eq]
    exact a2.congr (fun x => slotOf_perm hp h1.nd x)
  · rw [← psort_congr (atS_perm hp j)]
    exact a5 j hj
theorem atS_cons (l : S114) (T : List S114) (j : Int) : atS (l :: T) j = if l.f0 = j then l.f1 :: atS T j else atS T j := by
  unfold atS
  by_cases h : l.f0 = j
  · rw [List.filter_cons_of_pos (by simpa using h), if_pos h]
    rfl
  · rw [List.filter_cons_of_neg (by simpa using h), if_neg h]
theorem atS_ids {T : List S114} {j x : Int} (h : x ∈ ids (atS T j)) : x ∈ tid T := by
  obtain ⟨d, hd, rfl⟩ := List.mem_map.1 h
  obtain ⟨l, hl, rfl⟩ := List.mem_map.1 hd
  exact tid_in.2 ⟨l, (List.mem_filter.1 hl).1, rfl⟩
/-- One more. -/
theorem PT.put {T : List S114} (p : PT T) {j : Int} {d : S24} (hj : 0 ≤ j ∧ j < 64) (hd : d.f0 ∉ tid T) (hw : (Lit.int .i64 d.f0).wf = true) : PT (⟨j, d⟩ :: T) := by
  refine ⟨List.nodup_cons.2 ⟨hd, p.nd⟩, fun l hl => ?_, fun l hl => ?_⟩
  · rcases List.mem_cons.1 hl with rfl | hl
    · exact hj
    · exact p.sl l hl
  · rcases List.mem_cons.1 hl with rfl | hl
    · exact hw
    · exact p.wf l hl
theorem slotOf_put {T : List S114} {j : Int} {d : S24} (x : Int) : slotOf (⟨j, d⟩ :: T) x = upd (slotOf T) d.f0 (some j) x := by
  rw [slotOf_cons]
  unfold upd
  by_cases h : d.f0 = x
  · rw [if_pos h, if_pos h.symm]
  · rw [if_neg h, if_neg (Ne.symm h)]
theorem hs_put {T : List S114} {fu : Int} (j : Nat) (hj : j < 64) (d : S24) (h : ∀ j : Nat, j < 64 → Mk.hs fu j = decide (atS T j ≠ [])) (k : Nat) (hk : k < 64) : Mk.hs (Mk.wi fu j) k = decide (atS (⟨j, d⟩ :: T) k ≠ []) := by
  rw [Mk.hs_with, h k hk, atS_cons]
  by_cases e : k = j
  · subst e
    rw [if_pos rfl]
    simp
    omega
  · rw [if_neg (by simp; omega)]
    have : ¬ (k : Int) = (j : Int) := by omega
    simp [this]
/-- One less. -/
def dropT (T : List S114) (id : Int) : List S114 := T.filter (fun l => !(l.f1.f0 == id))
theorem tid_drop {T : List S114} {id x : Int} : x ∈ tid (dropT T id) ↔ x ∈ tid T ∧ x ≠ id := by
  rw [tid_in, tid_in]
  constructor
  · rintro ⟨l, hl, rfl⟩
    have := List.mem_filter.1 hl
    exact ⟨⟨l, this.1, rfl⟩, by simpa using this.2⟩
  · rintro ⟨⟨l, hl, rfl⟩, h⟩
    exact ⟨l, List.mem_filter.2 ⟨hl, by simpa using h⟩, rfl⟩
theorem PT.drop {T : List S114} (p : PT T) (id : Int) : PT (dropT T id) :=
  ⟨p.nd.sublist (List.filter_sublist.map _), fun l hl => p.sl l (List.mem_filter.1 hl).1, fun l hl => p.wf l (List.mem_filter.1 hl).1⟩
theorem slotOf_drop {T : List S114} (p : PT T) (id x : Int) : slotOf (dropT T id) x = upd (slotOf T) id none x := by
  unfold upd
  by_cases h : x = id
  · rw [if_pos h, slotOf_none, tid_drop]
    exact fun e => e.2 h
  · rw [if_neg h]
    by_cases hx : x ∈ tid T
    · obtain ⟨l, hl, rfl⟩ := tid_in.1 hx
      rw [slotOf_mem p.nd hl, slotOf_mem (p.drop id).nd (List.mem_filter.2 ⟨hl, by simpa using h⟩)]
    · rw [slotOf_none.2 hx, slotOf_none, tid_drop]
      exact fun e => hx e.1
theorem atS_drop (T : List S114) (id j : Int) : atS (dropT T id) j = rm (atS T j) id := by
  unfold atS dropT rm
  rw [List.filter_filter, List.filter_map, List.filter_filter]
  congr 1
  apply List.filter_congr
  intro l _
  rw [Bool.and_comm]
  rfl
theorem rm_none {L : List S24} {id : Int} (h : id ∉ ids L) : rm L id = L := List.filter_eq_self.2 (fun y hy => by
  have : y.f0 ≠ id := fun e => h (by rw [← e]; exact List.mem_map.2 ⟨y, hy, rfl⟩)
  simpa using this)
theorem atS_other {T : List S114} (p : PT T) {l : S114} (hl : l ∈ T) {i : Int} (hi : i ≠ l.f0) : l.f1.f0 ∉ ids (atS T i) := by
  intro h
  obtain ⟨d, hd, e⟩ := List.mem_map.1 h
  obtain ⟨a, ha, rfl⟩ := List.mem_map.1 hd
  have ha2 := List.mem_filter.1 ha
  have h1 := slotOf_mem p.nd ha2.1
  rw [e, slotOf_mem p.nd hl] at h1
  have h3 : a.f0 = i := by simpa using ha2.2
  exact hi (by rw [← h3]; exact (Option.some.inj h1).symm)
theorem drop_len {T : List S114} (p : PT T) {l : S114} (hl : l ∈ T) : (dropT T l.f1.f0).length = T.length - 1 := by
  have hn := p.nd
  clear p
  induction T with
  | nil => exact absurd hl List.not_mem_nil
  | cons a T ih =>
    have hn2 := List.nodup_cons.1 hn
    unfold dropT
    rcases List.mem_cons.1 hl with rfl | hl
    · rw [List.filter_cons_of_neg (by simp), List.filter_eq_self.2 (fun y hy => ?_)]
      · simp
      · have : y.f1.f0 ≠ l.f1.f0 := fun e => hn2.1 (List.mem_map.2 ⟨y, hy, e⟩)
        simpa using this
    · have : a.f1.f0 ≠ l.f1.f0 := fun e => hn2.1 (List.mem_map.2 ⟨l, hl, e.symm⟩)
      rw [List.filter_cons_of_pos (by simpa using this), List.length_cons]
      have := ih hl hn2.2
      unfold dropT at this
      rw [this, List.length_cons]
      have : 0 < T.length := List.length_pos_of_mem hl
      omega
theorem drop_none {T : List S114} {id : Int} (h : id ∉ tid T) : dropT T id = T := List.filter_eq_self.2 (fun y hy => by
  have : y.f1.f0 ≠ id := fun e => h (by rw [← e]; exact List.mem_map.2 ⟨y, hy, rfl⟩)
  simpa using this)
end Go.Proofs.Ytedolmjealgeoaa.Rg
