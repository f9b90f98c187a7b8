/- Masks, plain: what the printed functions of package mask tell. Conditions: a mask is a number of 64 bits. -/
import Derived.Test.YtedolmjealgeoaaDoorPBasex7
import Derived.Laws.BitsAllLaws
namespace Go.Proofs.YtedolmjealgeoaaDoor.Mk
open Go.RowKit Go.Proofs.YtedolmjealgeoaaDoor.PBase Go.Proofs.YtedolmjealgeoaaDoor.Tz Go.Proofs.YtedolmjealgeoaaDoorW.PrintWords Go.Proofs.YtedolmjealgeoaaDoorW.PrintLast Go.Proofs.YtedolmjealgeoaaDoorW.PrintMore

/-- A number of 64 bits. -/
def U (m : Int) : Prop := 0 ≤ m ∧ m < 18446744073709551616
theorem U.nat {m : Int} (h : U m) : m.toNat < 2 ^ 64 := by unfold U at h; rw [show (2 : Nat) ^ 64 = 18446744073709551616 by decide]; omega
/-- Is the slot in? -/
def hs (m i : Int) : Bool := decide (0 ≤ i ∧ i < 64) && m.toNat.testBit i.toNat
theorem hs_of {m i : Int} (h0 : 0 ≤ i) (h1 : i < 64) : hs m i = m.toNat.testBit i.toNat := by unfold hs; rw [decide_eq_true ⟨h0, h1⟩, Bool.true_and]
theorem hs_out {m i : Int} (h : ¬ (0 ≤ i ∧ i < 64)) : hs m i = false := by unfold hs; rw [decide_eq_false h, Bool.false_and]
theorem hs_in {m i : Int} (h : hs m i = true) : 0 ≤ i ∧ i < 64 := by
  by_cases hh : 0 ≤ i ∧ i < 64
  · exact hh
  · rw [hs_out hh] at h; cases h
theorem ext {a b : Int} (ha : U a) (hb : U b) (h : ∀ i, 0 ≤ i → i < 64 → hs a i = hs b i) : a = b := by
  have e : a.toNat = b.toNat := by
    apply Nat.eq_of_testBit_eq
    intro i
    by_cases hi : i < 64
    · have := h i (by omega) (by omega)
      rw [hs_of (by omega) (by omega), hs_of (by omega) (by omega), Int.toNat_natCast] at this
      exact this
    · rw [Nat.testBit_lt_two_pow (Nat.lt_of_lt_of_le ha.nat (Nat.pow_le_pow_right (by decide) (by omega))), Nat.testBit_lt_two_pow (Nat.lt_of_lt_of_le hb.nat (Nat.pow_le_pow_right (by decide) (by omega)))]
  unfold U at ha hb
  omega
theorem isIn (i : Int) : mask_is.f i = some (decide (0 ≤ i ∧ i < 64)) := by
  unfold mask_is.f
  by_cases h : i ≥ 0
  · rw [if_pos h]; congr 1; rw [decide_eq_decide]; omega
  · rw [if_neg h]; congr 1; symm; rw [decide_eq_false_iff_not]; omega
/-- The set of one slot. -/
def one (i : Int) : Nat := if 0 ≤ i ∧ i < 64 then 2 ^ i.toNat else 0
theorem one_lt (i : Int) : one i < 2 ^ 64 := by
  unfold one
  split
  · exact Nat.pow_lt_pow_right (by decide) (by omega)
  · exact Nat.pow_pos (by decide)
theorem one_lt' (i : Int) : one i < 18446744073709551616 := one_lt i
theorem shl_one {i : Int} (h0 : 0 ≤ i) (h1 : i < 64) : shl .u64 1 i = ((one i : Nat) : Int) := by
  have e : one i = 2 ^ i.toNat := by unfold one; rw [if_pos ⟨h0, h1⟩]
  have hlt := one_lt' i
  have hm : min i.toNat 64 = i.toNat := Nat.min_eq_left (by omega)
  unfold shl
  rw [IntKind.wrap_u64, show IntKind.u64.bits = 64 from rfl, hm, Int.one_mul, show ((2 : Int) ^ i.toNat) = ((2 ^ i.toNat : Nat) : Int) by push_cast; rfl, ← e]
  omega
theorem bit (i : Int) : mask_bit.f i = some ((one i : Nat) : Int) := by
  unfold mask_bit.f
  rw [isIn]
  simp only [Option.bind_some, decide_eq_true_eq]
  by_cases h : 0 ≤ i ∧ i < 64
  · rw [if_pos h, if_pos h.1, shl_one h.1 h.2]
  · rw [if_neg h]
    unfold one
    rw [if_neg h]
    rfl
theorem testBit_one (i : Int) (j : Nat) : (one i).testBit j = (decide (0 ≤ i ∧ i < 64) && decide (i.toNat = j)) := by
  unfold one
  by_cases h : 0 ≤ i ∧ i < 64
  · rw [if_pos h, decide_eq_true h, Bool.true_and, Nat.testBit_two_pow]
  · rw [if_neg h, decide_eq_false h, Bool.false_and, Nat.zero_testBit]
def wi (m i : Int) : Int := ((m.toNat ||| one i : Nat) : Int)
def wo (m i : Int) : Int := ((m.toNat &&& (18446744073709551615 - one i) : Nat) : Int)
theorem with_ {m : Int} (hm : U m) (i : Int) : mask_With.f m i = some (wi m i) := by
  unfold mask_With.f
  have hlt := one_lt' i
  rw [bit, Option.bind_some, u64_or m _ hm.1 hm.2 (by omega) (by omega), Int.toNat_natCast]
  rfl
theorem without {m : Int} (hm : U m) (i : Int) : mask_Without.f m i = some (wo m i) := by
  unfold mask_Without.f
  have hlt := one_lt' i
  rw [bit, Option.bind_some, u64_andNot m _ hm.1 hm.2 (by omega) (by omega), Int.toNat_natCast]
  rfl
theorem U_with {m : Int} (hm : U m) (i : Int) : U (wi m i) := by
  have := Nat.or_lt_two_pow hm.nat (one_lt i)
  rw [show (2 : Nat) ^ 64 = 18446744073709551616 by decide] at this
  unfold U wi; omega
theorem U_without {m : Int} (hm : U m) (i : Int) : U (wo m i) := by
  have := Nat.and_lt_two_pow (18446744073709551615 - one i) hm.nat
  rw [Nat.and_comm] at this
  rw [show (2 : Nat) ^ 64 = 18446744073709551616 by decide] at this
  unfold U wo
  omega
theorem hs_with (m i k : Int) : hs (wi m i) k = (hs m k || (decide (k = i) && decide (0 ≤ i ∧ i < 64))) := by
  by_cases h : 0 ≤ k ∧ k < 64
  · rw [hs_of h.1 h.2, hs_of h.1 h.2, wi, Int.toNat_natCast, Nat.testBit_or, testBit_one]
    congr 1
    rw [Bool.and_comm]
    by_cases hi : 0 ≤ i ∧ i < 64
    · rw [decide_eq_true hi]
      congr 1
      rw [decide_eq_decide]; omega
    · rw [decide_eq_false hi]; simp
  · rw [hs_out h, hs_out h, Bool.false_or]
    by_cases he : k = i
    · subst he; rw [decide_eq_false h]; simp
    · rw [decide_eq_false he]; rfl
theorem hs_without (m i k : Int) : hs (wo m i) k = (hs m k && !decide (k = i)) := by
  by_cases h : 0 ≤ k ∧ k < 64
  · have e : (18446744073709551615 - one i : Nat) = 2 ^ 64 - (one i + 1) := by rw [show (2 : Nat) ^ 64 = 18446744073709551616 by decide]; omega
    rw [hs_of h.1 h.2, hs_of h.1 h.2, wo, Int.toNat_natCast, Nat.testBit_and, e, Nat.testBit_two_pow_sub_succ (one_lt i), testBit_one, decide_eq_true (show k.toNat < 64 by omega), Bool.true_and]
    congr 2
    by_cases he : k = i
    · subst he; rw [decide_eq_true h]; simp
    · rw [decide_eq_false he]
      by_cases hi : 0 ≤ i ∧ i < 64
      · rw [decide_eq_true hi, decide_eq_false (by omega)]; rfl
      · rw [decide_eq_false hi]; rfl
  · rw [hs_out h, hs_out h, Bool.false_and]

/-! ### The next one -/
/-- r is what Next tells, from f on. -/
def IsNext (m f : Int) (r : Int × Bool) : Prop := r.2 = true ∧ f ≤ r.1 ∧ 0 ≤ r.1 ∧ hs m r.1 = true ∧ (∀ j, 0 ≤ j → f ≤ j → j < r.1 → hs m j = false) ∨ r = (0, false) ∧ ∀ j, 0 ≤ j → f ≤ j → hs m j = false
theorem IsNext.unique {m f : Int} {r s : Int × Bool} (h : IsNext m f r) (k : IsNext m f s) : r = s := by
  rcases h with ⟨h1, h2, h3, h4, h5⟩ | ⟨rfl, h⟩
  · rcases k with ⟨k1, k2, k3, k4, k5⟩ | ⟨rfl, k⟩
    · have : r.1 = s.1 := by
        rcases Int.lt_trichotomy r.1 s.1 with hlt | he | hlt
        · have := k5 _ h3 h2 hlt; rw [h4] at this; cases this
        · exact he
        · have := h5 _ k3 k2 hlt; rw [k4] at this; cases this
      exact Prod.ext this (h1.trans k1.symm)
    · have := k _ h3 h2; rw [h4] at this; cases this
  · rcases k with ⟨k1, k2, k3, k4, k5⟩ | ⟨rfl, k⟩
    · have := h _ k3 k2; rw [k4] at this; cases this
    · rfl
theorem ctz_bits (x : Nat) (h0 : x ≠ 0) (h : x < 2 ^ 64) : x.testBit (Lib.ctz 64 x) = true ∧ (∀ j, j < Lib.ctz 64 x → x.testBit j = false) ∧ Lib.ctz 64 x < 64 := by
  have e : Lib.ctz 64 x = Lib.ctzFrom 64 x := by unfold Lib.ctz; rw [if_neg h0]
  obtain ⟨q, hq, hlt⟩ := Lib.ctzFrom_spec 64 x (Nat.pos_of_ne_zero h0) h
  rw [← e] at hq hlt
  refine ⟨?_, fun j hj => ?_, hlt⟩
  · conv => lhs; arg 1; rw [hq]
    rw [Nat.mul_comm, Nat.testBit_mul_two_pow]
    simp
  · conv => lhs; arg 1; rw [hq]
    rw [Nat.mul_comm, Nat.testBit_mul_two_pow]
    simp [show ¬ Lib.ctz 64 x ≤ j by omega]
theorem shr_nat {m f : Int} (hm : U m) (h0 : 0 ≤ f) (h1 : f < 64) : shr .u64 m f = ((m.toNat / 2 ^ f.toNat : Nat) : Int) := by
  have e : ((m.toNat : Nat) : Int) = m := by unfold U at hm; omega
  unfold shr
  rw [show IntKind.u64.bits = 64 from rfl, Nat.min_eq_left (by omega)]
  rw [← e, Int.toNat_natCast]
  push_cast
  rfl
theorem next {m : Int} (hm : U m) (f : Int) : ∃ r, mask_Next.f m f = some r ∧ IsNext m f r := by
  obtain ⟨g, hg, g0, hgf⟩ : ∃ g, mx f 0 = g ∧ 0 ≤ g ∧ (∀ j, 0 ≤ j → (f ≤ j ↔ g ≤ j)) := by
    refine ⟨_, rfl, ?_, fun j hj => ?_⟩ <;> unfold mx <;> split <;> omega
  unfold mask_Next.f
  rw [hg]
  by_cases h64 : g ≥ 64
  · rw [if_pos h64]
    exact ⟨_, rfl, .inr ⟨rfl, fun j hj hfj => hs_out (fun hh => by have := (hgf j hj).1 hfj; omega)⟩⟩
  rw [if_neg h64, shr_nat hm g0 (by omega)]
  have hlt : m.toNat / 2 ^ g.toNat < 2 ^ 64 := Nat.lt_of_le_of_lt (Nat.div_le_self _ _) hm.nat
  have htb : ∀ j : Nat, (m.toNat / 2 ^ g.toNat).testBit j = m.toNat.testBit (g.toNat + j) := fun j => by rw [← Nat.shiftRight_eq_div_pow, Nat.testBit_shiftRight]
  by_cases hz : m.toNat / 2 ^ g.toNat = 0
  · rw [hz, if_pos (by rfl)]
    refine ⟨_, rfl, .inr ⟨rfl, fun j hj hfj => ?_⟩⟩
    by_cases hh : 0 ≤ j ∧ j < 64
    · have := htb (j.toNat - g.toNat)
      have hge := (hgf j hj).1 hfj
      rw [hz, Nat.zero_testBit, show g.toNat + (j.toNat - g.toNat) = j.toNat by omega] at this
      rw [hs_of hh.1 hh.2, ← this]
    · exact hs_out hh
  · rw [if_neg (by omega)]
    have hb := ctz_bits _ hz hlt
    rw [show (2 : Nat) ^ 64 = 18446744073709551616 by decide] at hlt
    obtain ⟨c, hc⟩ : ∃ c, Lib.ctz 64 (m.toNat / 2 ^ g.toNat) = c := ⟨_, rfl⟩
    rw [hc] at hb
    obtain ⟨b1, b2, b3⟩ := hb
    have hlt64 : g.toNat + c < 64 := by
      rw [htb] at b1
      apply Decidable.byContradiction
      intro hge
      rw [Nat.testBit_lt_two_pow (Nat.lt_of_lt_of_le hm.nat (Nat.pow_le_pow_right (by decide) (by omega)))] at b1
      cases b1
    unfold Gv.bits_TrailingZeros64.f Tz.bits_TrailingZeros64.f
    rw [if_pos (Int.natCast_nonneg _), if_pos (by omega), Int.toNat_natCast, hc, Option.bind_some, show wrap64 (g + (c : Int)) = g + c by unfold wrap64; omega]
    refine ⟨_, rfl, .inl ⟨rfl, (hgf _ (by omega)).2 (by show g ≤ g + c; omega), by show 0 ≤ g + (c : Int); omega, ?_, fun j hj hfj hjl => ?_⟩⟩
    · show hs m (g + c) = true
      rw [hs_of (by omega) (by omega), show (g + (c : Int)).toNat = g.toNat + c by omega, ← htb]
      exact b1
    · have hjl' : j < g + c := hjl
      have hge := (hgf j hj).1 hfj
      rw [hs_of hj (by omega), show j.toNat = g.toNat + (j.toNat - g.toNat) by omega, ← htb]
      exact b2 _ (by omega)
/-- r is what Round tells. -/
def IsRound (m f : Int) (r : Int × Bool) : Prop := if 0 ≤ f ∧ f < 64 then ∃ s, IsNext m f s ∧ if s.2 = true then r = s else IsNext m 0 r else r = (0, false)
theorem round {m : Int} (hm : U m) (f : Int) : ∃ r, mask_Round.f m f = some r ∧ IsRound m f r := by
  unfold mask_Round.f IsRound
  rw [isIn]
  simp only [Option.bind_some, decide_eq_true_eq]
  by_cases h : 0 ≤ f ∧ f < 64
  · obtain ⟨s, e, hs⟩ := next hm f
    obtain ⟨t, e', ht⟩ := next hm 0
    rw [if_pos h, e, e']
    simp only [Option.bind_some]
    by_cases h2 : s.2 = true
    · rw [if_pos h2]
      exact ⟨(s.1, true), rfl, by rw [if_pos h]; exact ⟨s, hs, by rw [if_pos h2]; exact Prod.ext rfl h2.symm⟩⟩
    · rw [if_neg h2]
      exact ⟨(t.1, t.2), rfl, by rw [if_pos h]; exact ⟨s, hs, by rw [if_neg h2]; exact ht⟩⟩
  · rw [if_neg h]
    exact ⟨_, rfl, by rw [if_neg h]⟩

/-! ### The list, and the set of a list -/
end Go.Proofs.YtedolmjealgeoaaDoor.Mk
