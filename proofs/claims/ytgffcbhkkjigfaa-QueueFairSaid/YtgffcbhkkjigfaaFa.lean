/- QueueFair, the plain law. Conditions: none. -/
import Derived.Test.YtgffcbhkkjigfaaOd
namespace Go.Proofs.Ytgffcbhkkjigfaa.Ln
open Go.RowKit Go.Proofs.Ytgffcbhkkjigfaa.PBase Go.Proofs.Ytgffcbhkkjigfaa.Heap
set_option linter.unusedVariables false
theorem turn_val {ag f0 f1 f2 : Int} (ha : 1 ≤ ag ∧ ag ≤ 1000) (h1 : 0 ≤ f1 ∧ f1 < 8) (h2 : 0 ≤ f2 ∧ f2 ≤ 1000000) : turn_Turn.f ag f0 f1 f2 = some (f2 + ag * f1) := by
  have hm : 0 ≤ ag * f1 ∧ ag * f1 ≤ 7000 := by
    refine ⟨Int.mul_nonneg (by omega) h1.1, ?_⟩
    have := Int.mul_le_mul ha.2 (show f1 ≤ 7 by omega) h1.1 (by decide)
    omega
  have e1 : turn_Good.f f0 f1 f2 = some true := by
    unfold turn_Good.f turn_in.f
    rw [if_pos h1.1, Option.bind_some, if_pos (decide_eq_true (by omega)), if_pos h2.1, Option.bind_some, decide_eq_true (by omega)]
  unfold turn_Turn.f
  rw [e1, Option.bind_some, if_pos rfl]
  unfold turn_in.f
  rw [if_pos ha.1, Option.bind_some, if_pos (decide_eq_true ha.2)]
  generalize ag * f1 = p at hm ⊢
  have e2 : wrap64 p = p := by unfold wrap64; omega
  rw [e2]
  have e3 : wrap64 (f2 + p) = f2 + p := by clear e2; unfold wrap64; omega
  rw [e3]
theorem tv_val {ag : Int} {x : S32} (ha : 1 ≤ ag ∧ ag ≤ 1000) (h1 : 0 ≤ x.f1 ∧ x.f1 < 8) (h2 : 0 ≤ x.f2 ∧ x.f2 ≤ 1000000) : tv ag x = x.f2 + ag * x.f1 := by
  unfold tv
  rw [turn_val ha h1 h2]
  rfl
/-- What a feed's queue holds: numbers 1 and 2 .. id, with either sign. -/
structure FJ (ag rm id : Int) (L : List S32) : Prop where
  st : St ag L
  le : (L.length : Int) ≤ rm
  has : ∀ x ∈ L, (x.f0 = 1 ∨ (2 ≤ x.f0 ∧ x.f0 ≤ id) ∨ (-id ≤ x.f0 ∧ x.f0 ≤ -2)) ∧ (0 ≤ x.f1 ∧ x.f1 < 8) ∧ (0 ≤ x.f2 ∧ x.f2 ≤ 1000000)
theorem FJ.nil {ag rm id : Int} (h : 0 ≤ rm) : FJ ag rm id [] := ⟨St.nil ag, h, fun x h => (List.not_mem_nil h).elim⟩
/-- What came: the feed from L on. -/
structure Came (ct id id' : Int) (L L' : List S32) : Prop where
  ex : ∃ N : List S32, L'.Perm (N ++ L) ∧ (N.length : Int) = id' - id ∧ ∀ x ∈ N, x.f0 ≠ 1 ∧ x.f2 = ct ∧ (0 ≤ x.f1 ∧ x.f1 < 8)
theorem Came.refl (ct id : Int) (L : List S32) : Came ct id id L L := ⟨[], List.Perm.refl _, by simp, fun x h => (List.not_mem_nil h).elim⟩
/-- One more comes. -/
theorem FJ.put {ag rm ct id0 id : Int} {L0 L : List S32} (h : FJ ag rm id L) (hc : Came ct id0 id L0 L) (h1 : 1 ≤ id) (hl : (L.length : Int) < rm) (hct : 0 ≤ ct ∧ ct ≤ 1000000) {who cl : Int} (hw : who = id + 1 ∨ who = -(id + 1)) (hcl : 0 ≤ cl ∧ cl < 8) :
    putE L rm who cl = 0 ∧ FJ ag rm (id + 1) (putL ag rm ct L who cl) ∧ Came ct id0 (id + 1) L0 (putL ag rm ct L who cl) ∧ (putL ag rm ct L who cl).length = L.length + 1 := by
  have hni : who ∉ ids L := by
    intro e
    obtain ⟨x, hx, e⟩ := List.mem_map.1 e
    have e2 : x.f0 = who := e
    have := (h.has x hx).1
    omega
  have hp : putE L rm who cl = 0 := put_ok hcl hni hl
  obtain ⟨hst, hpm⟩ := h.st.push (x := ⟨who, cl, ct⟩) hni
  rw [putL_ok hp]
  refine ⟨hp, ⟨hst, by rw [hpm.length_eq, List.length_cons]; omega, fun x hx => ?_⟩, ?_⟩
  · rcases List.mem_cons.1 (hpm.mem_iff.1 hx) with rfl | hx
    · refine ⟨?_, hcl, hct⟩
      show who = 1 ∨ (2 ≤ who ∧ who ≤ id + 1) ∨ (-(id + 1) ≤ who ∧ who ≤ -2)
      omega
    · have := h.has x hx
      exact ⟨by omega, this.2⟩
  · refine ⟨?_, by rw [hpm.length_eq, List.length_cons]⟩
    obtain ⟨N, k1, k2, k3⟩ := hc.ex
    refine ⟨⟨who, cl, ct⟩ :: N, ?_, by rw [List.length_cons]; omega, fun x hx => ?_⟩
    · exact hpm.trans (by simpa using k1)
    · rcases List.mem_cons.1 hx with rfl | hx
      · exact ⟨show who ≠ 1 by omega, rfl, hcl⟩
      · exact k3 x hx
theorem FJ.take {ag rm id : Int} {L : List S32} (h : FJ ag rm id L) (h0 : 0 < L.length) : FJ ag rm id (removeL ag L 0) := by
  have h1 := h.st.take h0
  have h2 := take_len h.st h0
  exact ⟨h1.1, by have := h.le; omega, fun x hx => h.has x (h1.2.1.mem_iff.2 (List.mem_cons_of_mem _ hx))⟩
theorem Came.le {ct id id' : Int} {L L' : List S32} (h : Came ct id id' L L') {ag rm : Int} (hj : FJ ag rm id' L') : id ≤ id' ∧ id' ≤ id + rm := by
  obtain ⟨N, k1, k2, k3⟩ := h.ex
  have := k1.length_eq
  rw [List.length_append] at this
  have := hj.le
  omega
/-- Before one waits, none has its number. -/
def NoOne (L : List S32) : Prop := ∀ x ∈ L, x.f0 ≠ 1
theorem NoOne.take {ag : Int} {L : List S32} (h : NoOne L) (hs : St ag L) (h0 : 0 < L.length) : NoOne (removeL ag L 0) := fun x hx => h x ((hs.take h0).2.1.mem_iff.2 (List.mem_cons_of_mem _ hx))
/-- How many are ahead. -/
def ahead (ag : Int) (j : S32) (L : List S32) : Nat := L.countP (fun x => lt ag x j)
/-- The race: i are taken since j waits. -/
structure Race (ag rm : Int) (j : S32) (ct0 D i : Int) (L : List S32) : Prop where
  mem : j ∈ L
  inv : D < i → (ahead ag j L : Int) + i ≤ D + rm
theorem ahead_lt {ag : Int} {j : S32} {L : List S32} (h : j ∈ L) : ahead ag j L + 1 ≤ L.length := by
  have h1 : lt ag j j = false := (lt_swo ag).irrefl j
  induction L with
  | nil => cases h
  | cons x L ih =>
    unfold ahead at *
    rw [List.countP_cons, List.length_cons]
    have h2 := List.countP_le_length (p := fun x => lt ag x j) (l := L)
    rcases List.mem_cons.1 h with rfl | h
    · rw [h1]
      simp
      exact h2
    · have := ih h
      by_cases c : lt ag x j = true
      · rw [if_pos c]; omega
      · rw [if_neg c]; omega
/-- One round of the race. -/
theorem Race.step {ag rm : Int} {j : S32} {ct0 D i id id' : Int} {L L' : List S32} (h : Race ag rm j ct0 D i L) (ha : 1 ≤ ag ∧ ag ≤ 10) (hi : 0 ≤ i ∧ i ≤ 1000) (hct : 0 ≤ ct0 ∧ ct0 ≤ 1000) (hj1 : 0 ≤ j.f1 ∧ j.f1 < 8) (hj2 : j.f2 = ct0) (hD : D = ag * j.f1)
    (hc : Came (ct0 + i) id id' L L') (hJ : FJ ag rm id' L') : 0 < L'.length ∧ (Heap.g z32 L' 0 ≠ j → Race ag rm j ct0 D (i + 1) (removeL ag L' 0)) ∧ j ∈ L' := by
  obtain ⟨N, k1, k2, k3⟩ := hc.ex
  have hm : j ∈ L' := k1.mem_iff.2 (List.mem_append.2 (.inr h.mem))
  have h0 : 0 < L'.length := by
    rcases Nat.eq_zero_or_pos L'.length with e | e
    · rw [List.eq_nil_of_length_eq_zero e] at hm; cases hm
    · exact e
  refine ⟨h0, fun hne => ?_, hm⟩
  obtain ⟨t1, t2, t3⟩ := hJ.st.take h0
  have hg : Heap.g z32 L' 0 ∈ L' := t2.mem_iff.2 List.mem_cons_self
  have hjr : j ∈ removeL ag L' 0 := by
    rcases List.mem_cons.1 (t2.mem_iff.1 hm) with e | e
    · exact absurd e.symm hne
    · exact e
  have hlt : lt ag (Heap.g z32 L' 0) j = true := by
    have h3 := t3 j hm
    rw [lt_false] at h3
    rw [lt_iff]
    have h4 : (Heap.g z32 L' 0).f0 ≠ j.f0 := fun e => hne (same_id hJ.st.nd hg hm e)
    omega
  have hcount : ahead ag j L' = ahead ag j (removeL ag L' 0) + 1 := by
    unfold ahead
    rw [t2.countP_eq, List.countP_cons, hlt]
    rfl
  refine ⟨hjr, fun hDi => ?_⟩
  by_cases c : D < i
  · have hN : ahead ag j L' = ahead ag j L := by
      unfold ahead
      rw [k1.countP_eq, List.countP_append]
      have : N.countP (fun x => lt ag x j) = 0 := by
        rw [List.countP_eq_zero]
        intro x hx
        obtain ⟨_, e1, e2⟩ := k3 x hx
        have v1 := tv_val (ag := ag) (x := x) (by omega) e2 (by omega)
        have v2 := tv_val (ag := ag) (x := j) (by omega) hj1 (by omega)
        have hm2 : 0 ≤ ag * x.f1 := Int.mul_nonneg (by omega) e2.1
        rw [Bool.not_eq_true, lt_false, v1, v2, e1, hj2, ← hD]
        omega
      omega
    have := h.inv c
    omega
  · have h5 := ahead_lt (ag := ag) hm
    have := hJ.le
    omega
theorem Race.over {ag rm : Int} {j : S32} {ct0 D i : Int} {L : List S32} (h : Race ag rm j ct0 D i L) (ha : 1 ≤ ag) (hj1 : 0 ≤ j.f1 ∧ j.f1 < 8) (hD : D = ag * j.f1) (hr : 0 ≤ rm) (hi : ag * 8 + rm ≤ i) : False := by
  have h1 : D ≤ ag * 7 := by rw [hD]; exact Int.mul_le_mul_of_nonneg_left (by omega) (by omega)
  have := h.inv (by omega)
  omega
theorem Race.start {ag rm ct id : Int} {L : List S32} (h : FJ ag rm id L) (hn : NoOne L) (h1 : 1 ≤ id) (hl : (L.length : Int) < rm) (ha : 1 ≤ ag) (hct : 0 ≤ ct ∧ ct ≤ 1000000) {cl : Int} (hcl : 0 ≤ cl ∧ cl < 8) :
    putE L rm 1 cl = 0 ∧ FJ ag rm id (putL ag rm ct L 1 cl) ∧ Race ag rm ⟨1, cl, ct⟩ ct (ag * cl) 0 (putL ag rm ct L 1 cl) := by
  have hni : 1 ∉ ids L := by
    intro e
    obtain ⟨x, hx, e⟩ := List.mem_map.1 e
    exact hn x hx e
  have hp : putE L rm 1 cl = 0 := put_ok hcl hni hl
  obtain ⟨hst, hpm⟩ := h.st.push (x := ⟨1, cl, ct⟩) hni
  rw [putL_ok hp]
  refine ⟨hp, ⟨hst, by rw [hpm.length_eq, List.length_cons]; omega, fun x hx => ?_⟩, ⟨hpm.mem_iff.2 List.mem_cons_self, fun hD => ?_⟩⟩
  · rcases List.mem_cons.1 (hpm.mem_iff.1 hx) with rfl | hx
    · exact ⟨.inl rfl, hcl, hct⟩
    · exact h.has x hx
  · have : 0 ≤ ag * cl := Int.mul_nonneg (by omega) hcl.1
    omega
theorem NoOne.came {ct id id' : Int} {L L' : List S32} (h : NoOne L) (hc : Came ct id id' L L') : NoOne L' := by
  obtain ⟨N, k1, k2, k3⟩ := hc.ex
  intro x hx
  rcases List.mem_append.1 (k1.mem_iff.1 hx) with e | e
  · exact (k3 x e).1
  · exact h x e
end Go.Proofs.Ytgffcbhkkjigfaa.Ln
