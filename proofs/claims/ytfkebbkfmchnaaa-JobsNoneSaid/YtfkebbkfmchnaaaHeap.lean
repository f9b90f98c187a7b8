/- A heap in a list, plain: up, down, what they keep. Conditions: the order is transitive and total. -/
import Derived.Calls
namespace Go.Proofs.Ytfkebbkfmchnaaa.Heap
section
variable {α : Type} (z : α) (lt : α → α → Bool)
def g (l : List α) (m : Nat) : α := l.getD m z
def sw (l : List α) (i j : Nat) : List α := (l.set i (g z l j)).set j (g z l i)
theorem sw_len (l : List α) (i j : Nat) : (sw z l i j).length = l.length := by simp [sw]
theorem g_lt {l : List α} {m : Nat} (h : m < l.length) : g z l m = l[m] := by simp [g, h]
theorem sw_perm {l : List α} {i j : Nat} (hi : i < l.length) (hj : j < l.length) : (sw z l i j).Perm l := by
  unfold sw
  rw [g_lt z hi, g_lt z hj]
  exact List.set_set_perm hi hj
theorem sw_get {l : List α} {i j : Nat} (hi : i < l.length) (hj : j < l.length) (m : Nat) : g z (sw z l i j) m = if m = j then g z l i else if m = i then g z l j else g z l m := by
  unfold sw
  by_cases hm : m < l.length
  · rw [g_lt z (by simpa using hm), List.getElem_set]
    by_cases e : j = m
    · rw [if_pos e, if_pos e.symm]
    · rw [if_neg e, if_neg (fun h => e h.symm), List.getElem_set]
      by_cases e2 : i = m
      · rw [if_pos e2, if_pos e2.symm]
      · rw [if_neg e2, if_neg (fun h => e2 h.symm), g_lt z hm]
  · rw [if_neg (by omega), if_neg (by omega)]
    unfold g
    have e1 : ∀ (k : List α), k.length ≤ m → k.getD m z = z := fun k hk => by rw [List.getD_eq_getElem?_getD, List.getElem?_eq_none hk]; rfl
    rw [e1 _ (by simp; omega), e1 _ (by omega)]
/-- Not behind. -/
def nb (a b : α) : Prop := lt b a = false
def up : Nat → List α → Nat → List α
  | 0, l, _ => l
  | f + 1, l, j => if (j - 1) / 2 = j ∨ lt (g z l j) (g z l ((j - 1) / 2)) = false then l else up f (sw z l ((j - 1) / 2) j) ((j - 1) / 2)
def kid (l : List α) (i n : Nat) : Nat := if 2 * i + 2 < n ∧ lt (g z l (2 * i + 2)) (g z l (2 * i + 1)) = true then 2 * i + 2 else 2 * i + 1
def down : Nat → List α → Nat → Nat → List α × Nat
  | 0, l, i, _ => (l, i)
  | f + 1, l, i, n => if 2 * i + 1 ≥ n then (l, i) else if lt (g z l (kid z lt l i n)) (g z l i) = false then (l, i) else down f (sw z l i (kid z lt l i n)) (kid z lt l i n) n
/-- The heap's order among the first n. -/
def HP (l : List α) (n : Nat) : Prop := ∀ m, 0 < m → m < n → nb lt (g z l ((m - 1) / 2)) (g z l m)
structure Ord : Prop where
  tr : ∀ {a b c : α}, nb lt a b → nb lt b c → nb lt a c
  tot : ∀ {a b : α}, lt a b = true → nb lt a b
theorem up_spec (O : Ord lt) (n : Nat) : ∀ (f : Nat) (l : List α) (j : Nat), j ≤ f → n ≤ l.length → j < n → (∀ m, 0 < m → m < n → m ≠ j → nb lt (g z l ((m - 1) / 2)) (g z l m)) → (∀ m, 0 < m → m < n → (m - 1) / 2 = j → 0 < j → nb lt (g z l ((j - 1) / 2)) (g z l m)) →
    HP z lt (up z lt f l j) n ∧ (up z lt f l j).Perm l ∧ ∀ m, n ≤ m → g z (up z lt f l j) m = g z l m := by
  intro f
  induction f with
  | zero =>
    intro l j hf hn hj h1 h2
    have : j = 0 := by omega
    subst this
    exact ⟨fun m m0 m1 => h1 m m0 m1 (by omega), List.Perm.refl _, fun _ _ => rfl⟩
  | succ f ih =>
    intro l j hf hn hj h1 h2
    unfold up
    by_cases hc : (j - 1) / 2 = j ∨ lt (g z l j) (g z l ((j - 1) / 2)) = false
    · rw [if_pos hc]
      refine ⟨fun m m0 m1 => ?_, List.Perm.refl _, fun _ _ => rfl⟩
      by_cases e : m = j
      · subst e
        rcases hc with hc | hc
        · omega
        · exact hc
      · exact h1 m m0 m1 e
    · rw [if_neg hc, ]
      rw [not_or] at hc
      obtain ⟨c1, c2⟩ := hc
      have c2' : lt (g z l j) (g z l ((j - 1) / 2)) = true := by simpa using c2
      have j0 : 0 < j := by omega
      obtain ⟨p, hp⟩ : ∃ p, (j - 1) / 2 = p := ⟨_, rfl⟩
      rw [hp] at c1 c2' ⊢
      have hpj : p < j := by omega
      have hs := sw_get z (l := l) (i := p) (j := j) (by omega) (by omega)
      obtain ⟨r1, r2, r3⟩ := ih (sw z l p j) p (by omega) (by rw [sw_len]; exact hn) (by omega) (fun m m0 m1 hm => by
        rw [hs, hs]
        by_cases e1 : m = j
        · subst e1
          rw [if_pos rfl, hp, if_neg (by omega), if_pos rfl]
          exact O.tot c2'
        · rw [if_neg e1, if_neg hm]
          by_cases e2 : (m - 1) / 2 = j
          · rw [if_pos e2]
            have := h2 m m0 m1 e2 j0
            rwa [hp] at this
          · rw [if_neg e2]
            by_cases e3 : (m - 1) / 2 = p
            · rw [if_pos e3]
              have := h1 m m0 m1 e1
              rw [e3] at this
              exact O.tr (O.tot c2') this
            · rw [if_neg e3]
              exact h1 m m0 m1 e1) (fun m m0 m1 hm p0 => by
        rw [hs, hs]
        have k1 : nb lt (g z l ((p - 1) / 2)) (g z l p) := h1 p p0 (by omega) (by omega)
        rw [if_neg (by omega), if_neg (by omega)]
        by_cases e1 : m = j
        · rw [if_pos e1]
          exact k1
        · rw [if_neg e1, if_neg (by omega)]
          have := h1 m m0 m1 e1
          rw [hm] at this
          exact O.tr k1 this)
      refine ⟨r1, r2.trans (sw_perm z (by omega) (by omega)), fun m hm => ?_⟩
      rw [r3 m hm, hs, if_neg (by omega), if_neg (by omega)]
theorem down_spec (O : Ord lt) (n : Nat) : ∀ (f : Nat) (l : List α) (i : Nat), n - i ≤ f → n ≤ l.length → i < n → (∀ m, 0 < m → m < n → m ≠ i → (m - 1) / 2 ≠ i → nb lt (g z l ((m - 1) / 2)) (g z l m)) → (∀ m, 0 < m → m < n → (m - 1) / 2 = i → 0 < i → nb lt (g z l ((i - 1) / 2)) (g z l m)) →
    (down z lt f l i n).1.Perm l ∧ (∀ m, 0 < m → m < n → m ≠ i → nb lt (g z (down z lt f l i n).1 ((m - 1) / 2)) (g z (down z lt f l i n).1 m)) ∧
    (((down z lt f l i n).2 ≠ i ∨ nb lt (g z l ((i - 1) / 2)) (g z l i)) → 0 < i → nb lt (g z (down z lt f l i n).1 ((i - 1) / 2)) (g z (down z lt f l i n).1 i)) ∧
    ((down z lt f l i n).2 = i → (down z lt f l i n).1 = l) ∧ i ≤ (down z lt f l i n).2 ∧ (∀ m, n ≤ m → g z (down z lt f l i n).1 m = g z l m) := by
  intro f
  induction f with
  | zero => intro l i hf hn hi; omega
  | succ f ih =>
    intro l i hf hn hi h1 h2
    unfold down
    by_cases hc : 2 * i + 1 ≥ n
    · rw [if_pos hc]
      refine ⟨List.Perm.refl _, fun m m0 m1 hm => h1 m m0 m1 hm (by omega), fun h i0 => ?_, fun _ => rfl, Nat.le_refl _, fun _ _ => rfl⟩
      rcases h with h | h
      · exact absurd rfl h
      · exact h
    · rw [if_neg hc]
      obtain ⟨q, hq⟩ : ∃ q, kid z lt l i n = q := ⟨_, rfl⟩
      have hkid : (q = 2 * i + 1 ∨ q = 2 * i + 2) ∧ q < n ∧ ∀ m, 0 < m → m < n → (m - 1) / 2 = i → m ≠ q → nb lt (g z l q) (g z l m) := by
        unfold kid at hq
        by_cases h : 2 * i + 2 < n ∧ lt (g z l (2 * i + 2)) (g z l (2 * i + 1)) = true
        · rw [if_pos h] at hq
          subst hq
          refine ⟨.inr rfl, h.1, fun m m0 m1 hm hne => ?_⟩
          have : m = 2 * i + 1 := by omega
          subst this
          exact O.tot h.2
        · rw [if_neg h] at hq
          subst hq
          refine ⟨.inl rfl, by omega, fun m m0 m1 hm hne => ?_⟩
          have : m = 2 * i + 2 := by omega
          subst this
          unfold nb
          cases hl : lt (g z l (2 * i + 2)) (g z l (2 * i + 1)) with
          | true => exact absurd ⟨m1, hl⟩ h
          | false => rfl
      rw [hq]
      obtain ⟨k1, k2, k3⟩ := hkid
      by_cases hd : lt (g z l q) (g z l i) = false
      · rw [if_pos hd]
        refine ⟨List.Perm.refl _, fun m m0 m1 hm => ?_, fun h i0 => ?_, fun _ => rfl, Nat.le_refl _, fun _ _ => rfl⟩
        · by_cases e : (m - 1) / 2 = i
          · by_cases e2 : m = q
            · subst e2
              rw [e]
              exact hd
            · rw [e]
              exact O.tr hd (k3 m m0 m1 e e2)
          · exact h1 m m0 m1 hm e
        · rcases h with h | h
          · exact absurd rfl h
          · exact h
      · rw [if_neg hd]
        have hd' : lt (g z l q) (g z l i) = true := by simpa using hd
        have hs := sw_get z (l := l) (i := i) (j := q) (by omega) (by omega)
        have hqi : (q - 1) / 2 = i := by omega
        obtain ⟨r1, r2, r3, r4, r5, r6⟩ := ih (sw z l i q) q (by omega) (by rw [sw_len]; exact hn) k2 (fun m m0 m1 hm hm2 => by
          rw [hs, hs, if_neg hm2, if_neg hm]
          by_cases e1 : (m - 1) / 2 = i
          · rw [if_pos e1, if_neg (by omega)]
            exact k3 m m0 m1 e1 hm
          · rw [if_neg e1]
            by_cases e2 : m = i
            · subst e2
              rw [if_pos rfl]
              exact h2 q (by omega) k2 hqi (by omega)
            · rw [if_neg e2]
              exact h1 m m0 m1 e2 e1) (fun m m0 m1 hm q0 => by
          rw [hs, hs, hqi, if_neg (by omega), if_pos rfl, if_neg (by omega), if_neg (by omega)]
          have := h1 m m0 m1 (by omega) (by omega)
          rwa [hm] at this)
        have hpq : nb lt (g z (sw z l i q) ((q - 1) / 2)) (g z (sw z l i q) q) := by
          rw [hs, hs, hqi, if_neg (by omega), if_pos rfl, if_pos rfl]
          exact O.tot hd'
        have rq := r3 (.inr hpq) (by omega)
        refine ⟨r1.trans (sw_perm z (by omega) (by omega)), fun m m0 m1 hm => ?_, fun _ i0 => ?_, fun h => ?_, by omega, fun m hm => ?_⟩
        · by_cases e : m = q
          · subst e; exact rq
          · exact r2 m m0 m1 e
        · exact r2 i i0 hi (by omega)
        · omega
        · rw [r6 m hm, hs, if_neg (by omega), if_neg (by omega)]
/-- The first one is ahead of all. -/
theorem root (O : Ord lt) {l : List α} {n : Nat} (h : HP z lt l n) (hr : nb lt (g z l 0) (g z l 0)) : ∀ m, m < n → nb lt (g z l 0) (g z l m) := by
  intro m
  induction m using Nat.strongRecOn with
  | ind m ih =>
    intro hm
    rcases Nat.eq_zero_or_pos m with h0 | h0
    · subst h0; exact hr
    · exact O.tr (ih ((m - 1) / 2) (by omega) (by omega)) (h m h0 hm)
end
end Go.Proofs.Ytfkebbkfmchnaaa.Heap
