/- Rows looked up by a key, plain. Conditions: none. -/
namespace Go.Proofs.Ytfkebbkfmchnaaa.Lst
section
variable {α : Type} {κ : α → Int}
/-- The first element with a key. -/
def lk (κ : α → Int) (l : List α) (x : Int) : Option α := l.find? (fun a => κ a == x)
theorem lk_nil (x : Int) : lk κ [] x = none := rfl
theorem lk_cons (a : α) (l : List α) (x : Int) : lk κ (a :: l) x = if κ a = x then some a else lk κ l x := by
  unfold lk
  by_cases h : κ a = x
  · simp [h]
  · simp [h]
theorem lk_mem {l : List α} {x : Int} {a : α} (h : lk κ l x = some a) : a ∈ l ∧ κ a = x := by
  refine ⟨List.mem_of_find?_eq_some h, ?_⟩
  have := List.find?_some h
  simpa using this
theorem lk_none {l : List α} {x : Int} : lk κ l x = none ↔ x ∉ l.map κ := by
  induction l with
  | nil => simp [lk]
  | cons a l ih =>
    rw [lk_cons, List.map_cons, List.mem_cons]
    by_cases h : κ a = x
    · simp [h]
    · rw [if_neg h, ih]
      constructor
      · rintro h2 (rfl | h3)
        · exact h rfl
        · exact h2 h3
      · intro h2 h3
        exact h2 (.inr h3)
theorem lk_isSome {l : List α} {x : Int} : (lk κ l x).isSome = true ↔ x ∈ l.map κ := by
  cases h : lk κ l x with
  | none => simp; have := lk_none.1 h; simpa using this
  | some a =>
    obtain ⟨h1, rfl⟩ := lk_mem h
    simp
    exact ⟨a, h1, rfl⟩
theorem lk_get {l : List α} (nd : (l.map κ).Nodup) {a : α} (h : a ∈ l) : lk κ l (κ a) = some a := by
  induction l with
  | nil => cases h
  | cons b l ih =>
    rw [lk_cons]
    rw [List.map_cons, List.nodup_cons] at nd
    rcases List.mem_cons.1 h with rfl | h2
    · rw [if_pos rfl]
    · have hm : κ a ∈ l.map κ := List.mem_map.2 ⟨a, h2, rfl⟩
      rw [if_neg (fun e => nd.1 (by rw [e]; exact hm)), ih nd.2 h2]
theorem lk_same {l : List α} (nd : (l.map κ).Nodup) {a b : α} (h : a ∈ l) (h2 : b ∈ l) (e : κ a = κ b) : a = b := by
  have h3 := lk_get nd h
  rw [e, lk_get nd h2] at h3
  exact (Option.some.inj h3).symm
theorem lk_snoc (l : List α) (a : α) (x : Int) (ha : κ a ∉ l.map κ) : lk κ (l ++ [a]) x = if x = κ a then some a else lk κ l x := by
  induction l with
  | nil => rw [List.nil_append, lk_cons, lk_nil]; by_cases h : κ a = x; · rw [if_pos h, if_pos h.symm]
           · rw [if_neg h, if_neg (fun e => h e.symm)]
  | cons b l ih =>
    rw [List.map_cons, List.mem_cons, not_or] at ha
    rw [List.cons_append, lk_cons, lk_cons, ih ha.2]
    by_cases h : κ b = x
    · rw [if_pos h, if_pos h, if_neg (fun e => ha.1 (e.symm.trans h.symm))]
    · rw [if_neg h, if_neg h]
/-- Without a key. -/
def rm (κ : α → Int) (l : List α) (x : Int) : List α := l.filter (fun a => decide (κ a ≠ x))
theorem rm_mem {l : List α} {x : Int} {a : α} : a ∈ rm κ l x ↔ a ∈ l ∧ κ a ≠ x := by simp [rm]
theorem lk_rm (l : List α) (x y : Int) : lk κ (rm κ l y) x = if x = y then none else lk κ l x := by
  by_cases h : x = y
  · rw [if_pos h, lk_none]
    intro h2
    obtain ⟨a, h3, rfl⟩ := List.mem_map.1 h2
    exact (rm_mem.1 h3).2 h
  · rw [if_neg h]
    induction l with
    | nil => rfl
    | cons b l ih =>
      unfold rm at ih ⊢
      rw [List.filter_cons, lk_cons]
      by_cases h2 : κ b = y
      · rw [if_neg (by simp [h2]), ih, if_neg (fun e => h (e.symm.trans h2))]
      · rw [if_pos (by simp [h2]), lk_cons, ih]
theorem rm_nd {κ2 : α → Int} {l : List α} (nd : (l.map κ2).Nodup) (x : Int) : ((rm κ l x).map κ2).Nodup := List.Nodup.sublist (List.Sublist.map _ (List.filter_sublist)) nd
theorem rm_len {l : List α} (nd : (l.map κ).Nodup) {x : Int} (h : x ∈ l.map κ) : (rm κ l x).length + 1 = l.length := by
  induction l with
  | nil => cases h
  | cons b l ih =>
    rw [List.map_cons, List.nodup_cons] at nd
    unfold rm at ih ⊢
    rw [List.filter_cons]
    by_cases h2 : κ b = x
    · rw [if_neg (by simp [h2])]
      have e : l.filter (fun a => decide (κ a ≠ x)) = l := by
        rw [List.filter_eq_self]
        intro a ha
        simp
        intro e
        exact nd.1 (h2 ▸ e ▸ List.mem_map.2 ⟨a, ha, rfl⟩)
      rw [e]; rfl
    · rw [if_pos (by simp [h2])]
      rw [List.map_cons, List.mem_cons] at h
      rcases h with h | h
      · exact absurd h.symm h2
      · simp only [List.length_cons]
        rw [ih nd.2 h]
theorem rm_no {l : List α} {x : Int} (h : x ∉ l.map κ) : rm κ l x = l := by
  unfold rm
  rw [List.filter_eq_self]
  intro a ha
  simp
  intro e
  exact h (e ▸ List.mem_map.2 ⟨a, ha, rfl⟩)
/-- Removal by one key, looked up by another. -/
theorem lk_rm2 {κ2 : α → Int} {l : List α} (n1 : (l.map κ).Nodup) (n2 : (l.map κ2).Nodup) {a : α} (ha : a ∈ l) (x : Int) : lk κ2 (rm κ l (κ a)) x = if x = κ2 a then none else lk κ2 l x := by
  have e : rm κ l (κ a) = rm κ2 l (κ2 a) := by
    unfold rm
    apply List.filter_congr
    intro b hb
    have : κ b = κ a ↔ κ2 b = κ2 a := ⟨fun h => by rw [lk_same n1 hb ha h], fun h => by rw [lk_same n2 hb ha h]⟩
    simp [this]
  rw [e, lk_rm]
theorem lk_map {f : α → α} (hf : ∀ a, κ (f a) = κ a) (l : List α) (x : Int) : lk κ (l.map f) x = (lk κ l x).map f := by
  induction l with
  | nil => rfl
  | cons b l ih =>
    rw [List.map_cons, lk_cons, lk_cons, hf, ih]
    by_cases h : κ b = x
    · rw [if_pos h, if_pos h]; rfl
    · rw [if_neg h, if_neg h]
/-- A row of distinct numbers among another's is not longer. -/
theorem nd_len : ∀ {A B : List Int}, A.Nodup → (∀ x ∈ A, x ∈ B) → A.length ≤ B.length
  | [], _, _, _ => Nat.zero_le _
  | a :: A, B, h, hs => by
    have h2 := List.nodup_cons.1 h
    have h3 := hs a (List.mem_cons_self)
    have h4 : A.length ≤ (B.erase a).length := nd_len h2.2 (fun x hx => (List.mem_erase_of_ne (fun e : x = a => h2.1 (by rw [← e]; exact hx))).2 (hs x (List.mem_cons_of_mem _ hx)))
    rw [List.length_erase_of_mem h3] at h4
    have := List.length_pos_of_mem h3
    simp only [List.length_cons]
    omega
end
end Go.Proofs.Ytfkebbkfmchnaaa.Lst
namespace Go.Proofs.Ytfkebbkfmchnaaa.Bk
/-- A job that is open; a lease. -/
structure Jb where
  id : Int
  cls : Int
  st : Int
  us : Int
structure Gr where
  n : Int
  j : Int
  u : Int
abbrev jid (x : Jb) : Int := x.id
abbrev gno (x : Gr) : Int := x.n
abbrev gjo (x : Gr) : Int := x.j
end Go.Proofs.Ytfkebbkfmchnaaa.Bk
