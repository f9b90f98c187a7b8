/- Masks: what the printed functions of the reference's layer 4 tell, plain. Conditions: a mask is a number of 64 bits. -/
import Derived.Test.YtedolmjealgeoaaDoorGc
namespace Go.Proofs.YtedolmjealgeoaaDoor.Mk
open Go.RowKit Go.Proofs.YtedolmjealgeoaaDoor.PBase Go.Proofs.YtedolmjealgeoaaDoorW.PrintWords Go.Proofs.YtedolmjealgeoaaDoorW.PrintLast Go.Proofs.YtedolmjealgeoaaDoorW.PrintMore
def from_ (m : Int) : Nat → Int → List Int
  | 0, _ => []
  | d + 1, i => if hs m i = true then i :: from_ m d (i + 1) else from_ m d (i + 1)
def ls (m : Int) : List Int := from_ m 64 0
theorem mem_from (m : Int) : ∀ (d : Nat) (i x : Int), x ∈ from_ m d i ↔ hs m x = true ∧ i ≤ x ∧ x < i + d
  | 0, i, x => by
    simp only [from_, List.not_mem_nil, false_iff]
    omega
  | d + 1, i, x => by
    unfold from_
    have ih := mem_from m d (i + 1) x
    by_cases h : hs m i = true
    · rw [if_pos h, List.mem_cons, ih]
      constructor
      · rintro (rfl | ⟨h1, h2, h3⟩)
        · exact ⟨h, by omega, by omega⟩
        · exact ⟨h1, by omega, by omega⟩
      · rintro ⟨h1, h2, h3⟩
        by_cases e : x = i
        · exact .inl e
        · exact .inr ⟨h1, by omega, by omega⟩
    · rw [if_neg h, ih]
      constructor
      · rintro ⟨h1, h2, h3⟩
        exact ⟨h1, by omega, by omega⟩
      · rintro ⟨h1, h2, h3⟩
        have e : x ≠ i := fun e => h (e ▸ h1)
        exact ⟨h1, by omega, by omega⟩
theorem mem_ls (m x : Int) : x ∈ ls m ↔ hs m x = true := by
  unfold ls
  rw [mem_from]
  constructor
  · exact fun h => h.1
  · intro h
    have := hs_in h
    exact ⟨h, by omega, by omega⟩
theorem rise_from (m : Int) : ∀ (d : Nat) (i : Int), (from_ m d i).Pairwise (· < ·)
  | 0, _ => List.Pairwise.nil
  | d + 1, i => by
    unfold from_
    split
    · exact List.Pairwise.cons (fun x hx => by have := (mem_from m d (i + 1) x).1 hx; omega) (rise_from m d (i + 1))
    · exact rise_from m d (i + 1)
theorem rise (m : Int) : (ls m).Pairwise (· < ·) := rise_from m 64 0
theorem len_from (m : Int) : ∀ (d : Nat) (i : Int), (from_ m d i).length ≤ d
  | 0, _ => Nat.le_refl _
  | d + 1, i => by
    unfold from_
    have := len_from m d (i + 1)
    split
    · simp; omega
    · omega
theorem len_ls (m : Int) : (ls m).length ≤ 64 := len_from m 64 0
theorem wi1 {i : Int} {n : Nat} (h0 : 0 ≤ i) (h : i < n) (hn : n ≤ 17592186044416) : wrap64 (i + 1) = i + 1 := by unfold wrap64; omega
theorem drop_rd {xs : List Int} {i : Int} (h0 : 0 ≤ i) (h1 : i < xs.length) : xs.drop i.toNat = rd xs i :: xs.drop (i + 1).toNat := by
  rw [List.drop_eq_getElem_cons (by omega), show (i + 1).toNat = i.toNat + 1 by omega]
  unfold rd
  rw [List.getD_eq_getElem?_getD, List.getElem?_eq_getElem (by omega)]
  rfl
def set_ : Int → List Int → Int
  | m, [] => m
  | m, x :: l => set_ (wi m x) l
theorem U_set : ∀ (l : List Int) {m : Int}, U m → U (set_ m l)
  | [], _, h => h
  | x :: l, _, h => U_set l (U_with h x)
theorem hs_set : ∀ (l : List Int) (m k : Int), hs (set_ m l) k = (hs m k || (decide (k ∈ l) && decide (0 ≤ k ∧ k < 64)))
  | [], m, k => by simp [set_]
  | x :: l, m, k => by
    unfold set_
    rw [hs_set l (wi m x) k, hs_with, Bool.or_assoc]
    congr 1
    by_cases hk : 0 ≤ k ∧ k < 64
    · rw [decide_eq_true hk, Bool.and_true, Bool.and_true]
      by_cases e : k = x
      · subst e; rw [decide_eq_true hk]; simp
      · simp [e]
    · rw [decide_eq_false hk, Bool.and_false, Bool.and_false, Bool.or_false]
      by_cases e : k = x
      · subst e; rw [decide_eq_false hk]; simp
      · rw [decide_eq_false e]; rfl
theorem U_zero : U 0 := by unfold U; omega
theorem hs_zero (k : Int) : hs 0 k = false := by unfold hs; simp
theorem bit_test {m i : Int} (hm : U m) (h0 : 0 ≤ i) (h1 : i < 64) : Int.tmod (shr .u64 m i) 2 = 1 ↔ hs m i = true := by
  rw [shr_nat hm h0 h1, hs_of h0 h1, Int.tmod_eq_emod_of_nonneg (Int.natCast_nonneg _), Nat.testBit_eq_decide_div_mod_eq, decide_eq_true_eq]
  omega
theorem wu {i : Int} (h0 : 0 ≤ i) (h1 : i < 64) : IntKind.u64.wrap i = i := by rw [IntKind.wrap_u64]; omega
theorem rlist_from {m : Int} (hm : U m) : ∀ (d : Nat) (i : Int) (l : List Int), 0 ≤ i → i + d = 64 → (l.length : Int) ≤ i → ∀ k, remontoirref04_List.l0 (k + d + 1) m l i = some (l ++ from_ m d i) := by
  intro d
  induction d with
  | zero =>
    intro i l h0 hd hl k
    rw [remontoirref04_List.l0, if_neg (by omega)]
    simp [from_]
  | succ d ih =>
    intro i l h0 hd hl k
    have hlim : l.length < 17592186044416 := by omega
    rw [show k + (d + 1) + 1 = (k + d + 1) + 1 by omega, remontoirref04_List.l0, if_pos (by omega), wu h0 (by omega), if_pos h0, show wrap64 (i + 1) = i + 1 by unfold wrap64; omega]
    unfold from_
    by_cases h : hs m i = true
    · rw [if_pos ((bit_test hm h0 (by omega)).2 h), if_pos hlim, if_pos h, ih (i + 1) _ (by omega) (by omega) (by rw [List.length_append]; simp; omega)]
      simp
    · rw [if_neg (fun hh => h ((bit_test hm h0 (by omega)).1 hh)), if_neg h, ih (i + 1) _ (by omega) (by omega) (by omega)]
theorem rlist {m : Int} (hm : U m) (k : Nat) : remontoirref04_List.f (k + 65) m = some (ls m) := by
  unfold remontoirref04_List.f
  rw [rlist_from hm 64 0 [] (by omega) (by omega) (by simp)]
  rfl
theorem rhas_from (x : Int) (l : List Int) (hl : l.length ≤ 17592186044416) : ∀ (d : Nat) (i : Int), 0 ≤ i → (l.length : Int) - i = d → ∀ k, remontoirref04_Has.l0 (k + d + 1) x l i = some (decide (x ∈ l.drop i.toNat)) := by
  intro d
  induction d with
  | zero =>
    intro i h0 hd k
    rw [remontoirref04_Has.l0, if_neg (by omega), List.drop_of_length_le (by omega)]
    rfl
  | succ d ih =>
    intro i h0 hd k
    rw [show k + (d + 1) + 1 = (k + d + 1) + 1 by omega, remontoirref04_Has.l0, if_pos (by omega), if_pos h0, wi1 (n := l.length) h0 (by omega) hl, drop_rd h0 (by omega)]
    by_cases h : rd l i = x
    · rw [if_pos h, h]; simp
    · rw [if_neg h, ih (i + 1) (by omega) (by omega)]
      congr 1
      rw [decide_eq_decide, List.mem_cons]
      constructor
      · exact .inr
      · rintro (e | e)
        · exact absurd e.symm h
        · exact e
theorem rhas {m : Int} (hm : U m) (x : Int) (k : Nat) : remontoirref04_Has.f (k + 70) m x = some (hs m x) := by
  have hlen := len_ls m
  unfold remontoirref04_Has.f
  rw [show k + 70 = (k + 5) + 65 by omega, rlist hm, Option.bind_some, show k + 5 + 65 = (k + 69 - (ls m).length) + (ls m).length + 1 by omega, rhas_from x (ls m) (by omega) _ 0 (by omega) (by omega)]
  congr 1
  show decide (x ∈ ls m) = hs m x
  by_cases h : hs m x = true
  · rw [h, decide_eq_true ((mem_ls m x).2 h)]
  · rw [decide_eq_false (fun hh => h ((mem_ls m x).1 hh))]; simpa using h
theorem add_one {m x : Int} (hm : U m) (h0 : 0 ≤ x) (h1 : x < 64) (h : ¬ hs m x = true) : IntKind.u64.wrap (m + shl .u64 1 x) = wi m x := by
  rw [shl_one h0 h1, IntKind.wrap_u64]
  have ho : one x = 2 ^ x.toNat := by unfold one; rw [if_pos ⟨h0, h1⟩]
  have hf : m.toNat.testBit x.toNat = false := by rw [hs_of h0 h1] at h; simpa using h
  have hdm := Nat.div_add_mod m.toNat (2 ^ x.toNat)
  have hlt := Nat.mod_lt m.toNat (Nat.pow_pos (n := x.toNat) (show 0 < 2 by decide))
  have hev : m.toNat / 2 ^ x.toNat % 2 = 0 := by
    rw [Nat.testBit_eq_decide_div_mod_eq, decide_eq_false_iff_not] at hf
    omega
  have e : m.toNat ||| one x = m.toNat + one x := by
    apply Nat.eq_of_testBit_eq
    intro j
    rw [Nat.testBit_or, ho, Nat.testBit_two_pow]
    have e2 : m.toNat + 2 ^ x.toNat = 2 ^ x.toNat * (m.toNat / 2 ^ x.toNat + 1) + m.toNat % 2 ^ x.toNat := by
      rw [Nat.mul_add, Nat.mul_one]; omega
    rw [e2, Nat.testBit_two_pow_mul_add _ hlt]
    conv => lhs; rw [← hdm, Nat.testBit_two_pow_mul_add _ hlt]
    by_cases hj : j < x.toNat
    · rw [if_pos hj, if_pos hj, decide_eq_false (by omega), Bool.or_false]
    · rw [if_neg hj, if_neg hj]
      rcases Nat.lt_or_eq_of_le (Nat.le_of_not_lt hj) with hlt2 | heq
      · rw [decide_eq_false (by omega), Bool.or_false]
        obtain ⟨n, hn⟩ : ∃ n, j - x.toNat = n + 1 := ⟨j - x.toNat - 1, by omega⟩
        rw [hn, Nat.testBit_succ, Nat.testBit_succ]
        congr 1
        omega
      · rw [decide_eq_true heq, Bool.or_true, ← heq, Nat.sub_self, Nat.testBit_zero]
        symm
        rw [decide_eq_true_eq]
        omega
  have hu := (U_with hm x).2
  unfold wi at hu ⊢
  rw [e] at hu ⊢
  unfold U at hm
  omega
theorem rof_from (l : List Int) (hl : l.length ≤ 17592186044416) : ∀ (d : Nat) (i m : Int), U m → 0 ≤ i → (l.length : Int) - i = d → ∀ k, remontoirref04_Of.l0 (k + d + 71) l m i = some (set_ m (l.drop i.toNat)) := by
  intro d
  induction d with
  | zero =>
    intro i m hm h0 hd k
    rw [remontoirref04_Of.l0, if_neg (by omega), List.drop_of_length_le (by omega)]
    rfl
  | succ d ih =>
    intro i m hm h0 hd k
    have same : (¬ (0 ≤ rd l i ∧ rd l i < 64) ∨ hs m (rd l i) = true) → wi m (rd l i) = m := by
      intro h
      refine ext (U_with hm _) hm (fun x h1 h2 => ?_)
      rw [hs_with]
      by_cases e : x = rd l i
      · subst e
        rcases h with h | h
        · exact absurd ⟨h1, h2⟩ h
        · rw [h]; simp
      · rw [decide_eq_false e]; simp
    rw [show k + (d + 1) + 71 = (k + d + 71) + 1 by omega, remontoirref04_Of.l0, if_pos (by omega), if_pos h0, wi1 (n := l.length) h0 (by omega) hl, drop_rd h0 (by omega)]
    show _ = some (set_ (wi m (rd l i)) (l.drop (i + 1).toNat))
    by_cases g0 : rd l i ≥ 0
    · rw [if_pos g0]
      by_cases g1 : rd l i < 64
      · rw [if_pos g1, show k + d + 71 = (k + d + 1) + 70 by omega, rhas hm, Option.bind_some]
        by_cases h : hs m (rd l i) = true
        · rw [if_pos h, same (.inr h)]
          exact ih (i + 1) m hm (by omega) (by omega) k
        · rw [if_neg h, wu g0 g1, if_pos g0, add_one hm g0 g1 h]
          exact ih (i + 1) _ (U_with hm _) (by omega) (by omega) k
      · rw [if_neg g1, same (.inl (by omega))]
        exact ih (i + 1) m hm (by omega) (by omega) k
    · rw [if_neg g0, same (.inl (by omega))]
      exact ih (i + 1) m hm (by omega) (by omega) k
theorem rof (l : List Int) (hl : l.length ≤ 17592186044416) (k : Nat) : remontoirref04_Of.f (k + l.length + 71) l = some (set_ 0 l) := by
  unfold remontoirref04_Of.f
  rw [rof_from l hl l.length 0 0 U_zero (by omega) (by omega)]
  rfl
theorem rnext_from {m : Int} (f : Int) (l : List Int) (hl : l.length ≤ 64) (hm : ∀ y, y ∈ l ↔ hs m y = true) (hr : l.Pairwise (· < ·)) : ∀ (d : Nat) (i : Int), 0 ≤ i → (l.length : Int) - i = d → (∀ y, y ∈ l → f ≤ y → y ∈ l.drop i.toNat) →
    ∃ r, (∀ k, remontoirref04_Next.l0 (k + d + 1) f l l.length i = some r) ∧ IsNext m f r := by
  intro d
  induction d with
  | zero =>
    intro i h0 hd hn
    refine ⟨(0, false), fun k => by rw [remontoirref04_Next.l0, if_neg (by omega)], .inr ⟨rfl, fun j hj hfj => ?_⟩⟩
    by_cases h : hs m j = true
    · have := hn j ((hm j).2 h) hfj
      rw [List.drop_of_length_le (by omega)] at this
      cases this
    · simpa using h
  | succ d ih =>
    intro i h0 hd hn
    have hd1 := drop_rd h0 (show i < (l.length : Int) by omega)
    have hmem : rd l i ∈ l := List.mem_of_mem_drop (by rw [hd1]; exact List.mem_cons_self)
    have h64 := hs_in ((hm _).1 hmem)
    have hp : (l.drop i.toNat).Pairwise (· < ·) := List.Pairwise.sublist (List.drop_sublist _ _) hr
    rw [hd1] at hp
    have hp1 := (List.pairwise_cons.1 hp).1
    by_cases h : rd l i ≥ f
    · refine ⟨(rd l i, true), fun k => by rw [show k + (d + 1) + 1 = (k + d + 1) + 1 by omega, remontoirref04_Next.l0, if_pos (by omega), if_pos h0, if_pos (by omega), if_pos h], .inl ⟨rfl, h, h64.1, (hm _).1 hmem, fun j j0 jf jl => ?_⟩⟩
      have jl' : j < rd l i := jl
      by_cases hh : hs m j = true
      · have := hn j ((hm j).2 hh) jf
        rw [hd1] at this
        rcases List.mem_cons.1 this with e | e
        · omega
        · have := hp1 j e; omega
      · simpa using hh
    · obtain ⟨r, hr1, hr2⟩ := ih (i + 1) (by omega) (by omega) (fun y hy hfy => by
        have := hn y hy hfy
        rw [hd1] at this
        rcases List.mem_cons.1 this with e | e
        · subst e; omega
        · exact e)
      exact ⟨r, fun k => by rw [show k + (d + 1) + 1 = (k + d + 1) + 1 by omega, remontoirref04_Next.l0, if_pos (by omega), if_pos h0, if_pos (by omega), if_neg h, wi1 (n := l.length) h0 (by omega) (by omega)]; exact hr1 k, hr2⟩
theorem rnext {m : Int} (hm : U m) (f : Int) : ∃ r, (∀ k, remontoirref04_Next.f (k + 150) m f = some r) ∧ IsNext m f r := by
  have hlen := len_ls m
  obtain ⟨r, hr1, hr2⟩ := rnext_from (m := m) f (ls m) hlen (mem_ls m) (rise m) (ls m).length 0 (by omega) (by omega) (fun y hy _ => by simpa using hy)
  refine ⟨r, fun k => ?_, hr2⟩
  unfold remontoirref04_Next.f
  have e1 : remontoirref04_List.f (k + 150) m = some (ls m) := rlist hm (k + 85)
  rw [e1, Option.bind_some]
  have := hr1 (k + 149 - (ls m).length)
  rwa [show k + 149 - (ls m).length + (ls m).length + 1 = k + 150 by omega] at this
theorem rround {m : Int} (hm : U m) (f : Int) : ∃ r, (∀ k, remontoirref04_Round.f (k + 151) m f = some r) ∧ IsRound m f r := by
  by_cases h : 0 ≤ f ∧ f < 64
  · obtain ⟨s, hs1, hs2⟩ := rnext hm f
    obtain ⟨t, ht1, ht2⟩ := rnext hm 0
    have key : ∀ k, remontoirref04_Round.f (k + 151) m f = some (if s.2 = true then (s.1, s.2) else (t.1, t.2)) := fun k => by
      unfold remontoirref04_Round.f
      rw [if_neg (by omega), decide_eq_false (by omega), show k + 151 = (k + 150) + 1 by omega, remontoirref04_Round.j0, if_neg (by decide), hs1, ht1]
      simp only [Option.bind_some]
      split <;> rfl
    refine ⟨_, key, ?_⟩
    unfold IsRound
    rw [if_pos h]
    refine ⟨s, hs2, ?_⟩
    by_cases h2 : s.2 = true
    · rw [if_pos h2, if_pos h2]
    · rw [if_neg h2, if_neg h2]; exact ht2
  · refine ⟨(0, false), fun k => ?_, by unfold IsRound; rw [if_neg h]⟩
    have key : ∀ b, b = true → remontoirref04_Round.j0 (k + 151) m f b = some (0, false) := by
      rintro b rfl
      rw [show k + 151 = (k + 150) + 1 by omega, remontoirref04_Round.j0, if_pos rfl]
    unfold remontoirref04_Round.f
    by_cases h1 : f < 0
    · rw [if_pos h1]; exact key true rfl
    · rw [if_neg h1]; exact key _ (decide_eq_true (by omega))
theorem IsRound.unique {m f : Int} {r s : Int × Bool} (h : IsRound m f r) (k : IsRound m f s) : r = s := by
  unfold IsRound at h k
  by_cases hf : 0 ≤ f ∧ f < 64
  · rw [if_pos hf] at h k
    obtain ⟨a, ha, h⟩ := h
    obtain ⟨b, hb, k⟩ := k
    obtain rfl := ha.unique hb
    by_cases h2 : a.2 = true
    · rw [if_pos h2] at h k
      exact h.trans k.symm
    · rw [if_neg h2] at h k
      exact h.unique k
  · rw [if_neg hf] at h k
    exact h.trans k.symm

end Go.Proofs.YtedolmjealgeoaaDoor.Mk
