/- Masks, plain: what the printed functions of package mask tell. Conditions: a mask is a number of 64 bits. -/
import Derived.Test.YtedolmjealgeoaaPBasex2
import Derived.Laws.BitsAllLaws
namespace Go.Proofs.Ytedolmjealgeoaa.Mk
open Go.RowKit Go.Proofs.Ytedolmjealgeoaa.PBase Go.Proofs.YtedolmjealgeoaaW.PrintWords Go.Proofs.YtedolmjealgeoaaW.PrintLast Go.Proofs.YtedolmjealgeoaaW.PrintMore

/-- A number of 64 bits. -/
def U (m : Int) : Prop := 0 ≤ m ∧ m < 18446744073709551616
theorem U.nat {m : Int} (h : U m) : m.toNat < 2 ^ 64 := by unfold U at h; rw [show (2 : Nat) ^ 64 = 18446744073709551616 by decide]; omega
/-- Is the slot in? -/
def hs (m i : Int) : Bool := decide (0 ≤ i ∧ i < 64) && m.toNat.testBit i.toNat
theorem hs_of {m i : Int} (h0 : 0 ≤ i) (h1 : i < 64) : hs m i = m.toNat.testBit i.toNat := by unfold hs; rw [decide_eq_true ⟨h0, h1⟩, Bool.true_and]
theorem hs_out {m i : Int} (h : ¬ (0 ≤ i ∧ i < 64)) : hs m i = false := by unfold hs; rw [decide_eq_false h, Bool.false_and]
theorem hs_in {m i : Int} (h : hs m i = true) : 0 ≤ i ∧ i < 64 := by
  by_cases hh : 0 ≤ i ∧ i < 64
  · exact hh
  · rw [hs_out hh] at h; cases h
theorem ext {a b : Int} (ha : U a) (hb : U b) (h : ∀ i, 0 ≤ i → i < 64 → hs a i = hs b i) : a = b := by
  have e : a.toNat = b.toNat := by
    apply Nat.eq_of_testBit_eq
    intro i
    by_cases hi : i < 64
    · have := h i (by omega) (by omega)
      rw [hs_of (by omega) (by omega), hs_of (by omega) (by omega), Int.toNat_natCast] at this
      exact this
    · rw [Nat.testBit_lt_two_pow (Nat.lt_of_lt_of_le ha.nat (Nat.pow_le_pow_right (by decide) (by omega))), Nat.testBit_lt_two_pow (Nat.lt_of_lt_of_le hb.nat (Nat.pow_le_pow_right (by decide) (by omega)))]
  unfold U at ha hb
  omega
theorem isIn (i : Int) : mask_is.f i = some (decide (0 ≤ i ∧ i < 64)) := by
  unfold mask_is.f
  by_cases h : i ≥ 0
  · rw [if_pos h]; congr 1; rw [decide_eq_decide]; omega
  · rw [if_neg h]; congr 1; symm; rw [decide_eq_false_iff_not]; omega
/-- The set of one slot. -/
def one (i : Int) : Nat := if 0 ≤ i ∧ i < 64 then 2 ^ i.toNat else 0
theorem one_lt (i : Int) : one i < 2 ^ 64 := by
  unfold one
  split
  · exact Nat.pow_lt_pow_right (by decide) (by omega)
  · exact Nat.pow_pos (by decide)
theorem one_lt' (i : Int) : one i < 18446744073709551616 := one_lt i
theorem shl_one {i : Int} (h0 : 0 ≤ i) (h1 : i < 64) : shl .u64 1 i = ((one i : Nat) : Int) := by
  have e : one i = 2 ^ i.toNat := by unfold one; rw [if_pos ⟨h0, h1⟩]
  have hlt := one_lt' i
  have hm : min i.toNat 64 = i.toNat := Nat.min_eq_left (by omega)
  unfold shl
  rw [IntKind.wrap_u64, show IntKind.u64.bits = 64 from rfl, hm, Int.one_mul, show ((2 : Int) ^ i.toNat) = ((2 ^ i.toNat : Nat) : Int) by push_cast; rfl, ← e]
  omega
theorem bit (i : Int) : mask_bit.f i = some ((one i : Nat) : Int) := by
  unfold mask_bit.f
  rw [isIn]
  simp only [Option.bind_some, decide_eq_true_eq]
  by_cases h : 0 ≤ i ∧ i < 64
  · rw [if_pos h, if_pos h.1, shl_one h.1 h.2]
  · rw [if_neg h]
    unfold one
    rw [if_neg h]
    rfl
theorem testBit_one (i : Int) (j : Nat) : (one i).testBit j = (decide (0 ≤ i ∧ i < 64) && decide (i.toNat = j)) := by
  unfold one
  by_cases h : 0 ≤ i ∧ i < 64
  · rw [if_pos h, decide_eq_true h, Bool.true_and, Nat.testBit_two_pow]
  · rw [if_neg h, decide_eq_false h, Bool.false_and, Nat.zero_testBit]
def wi (m i : Int) : Int := ((m.toNat ||| one i : Nat) : Int)
def wo (m i : Int) : Int := ((m.toNat &&& (18446744073709551615 - one i) : Nat) : Int)
theorem with_ {m : Int} (hm : U m) (i : Int) : mask_With.f m i = some (wi m i) := by
  unfold mask_With.f
  have hlt := one_lt' i
  rw [bit, Option.bind_some, u64_or m _ hm.1 hm.2 (by omega) (by omega), Int.toNat_natCast]
  rfl
theorem without {m : Int} (hm : U m) (i : Int) : mask_Without.f m i = some (wo m i) := by
  unfold mask_Without.f
  have hlt := one_lt' i
  rw [bit, Option.bind_some, u64_andNot m _ hm.1 hm.2 (by omega) (by omega), Int.toNat_natCast]
  rfl
theorem U_with {m : Int} (hm : U m) (i : Int) : U (wi m i) := by
  have := Nat.or_lt_two_pow hm.nat (one_lt i)
  rw [show (2 : Nat) ^ 64 = 18446744073709551616 by decide] at this
  unfold U wi; omega
theorem U_without {m : Int} (hm : U m) (i : Int) : U (wo m i) := by
  have := Nat.and_lt_two_pow (18446744073709551615 - one i) hm.nat
  rw [Nat.and_comm] at this
  rw [show (2 : Nat) ^ 64 = 18446744073709551616 by decide] at this
  unfold U wo
  omega
theorem hs_with (m i k : Int) : hs (wi m i) k = (hs m k || (decide (k = i) && decide (0 ≤ i ∧ i < 64))) := by
  by_cases h : 0 ≤ k ∧ k < 64
  · rw [hs_of h.1 h.2, hs_of h.1 h.2, wi, Int.toNat_natCast, Nat.testBit_or, testBit_one]
    congr 1
    rw [Bool.and_comm]
    by_cases hi : 0 ≤ i ∧ i < 64
    · rw [decide_eq_true hi]
      congr 1
      rw [decide_eq_decide]; omega
    · rw [decide_eq_false hi]; simp
  · rw [hs_out h, hs_out h, Bool.false_or]
    by_cases he : k = i
    · subst he; rw [decide_eq_false h]; simp
    · rw [decide_eq_false he]; rfl
theorem hs_without (m i k : Int) : hs (wo m i) k = (hs m k && !decide (k = i)) := by
  by_cases h : 0 ≤ k ∧ k < 64
  · have e : (18446744073709551615 - one i : Nat) = 2 ^ 64 - (one i + 1) := by rw [show (2 : Nat) ^ 64 = 18446744073709551616 by decide]; omega
    rw [hs_of h.1 h.2, hs_of h.1 h.2, wo, Int.toNat_natCast, Nat.testBit_and, e, Nat.testBit_two_pow_sub_succ (one_lt i), testBit_one, decide_eq_true (show k.toNat < 64 by omega), Bool.true_and]
    congr 2
    by_cases he : k = i
    · subst he; rw [decide_eq_true h]; simp
    · rw [decide_eq_false he]
      by_cases hi : 0 ≤ i ∧ i < 64
      · rw [decide_eq_true hi, decide_eq_false (by omega)]; rfl
      · rw [decide_eq_false hi]; rfl
  · rw [hs_out h, hs_out h, Bool.false_and]

end Go.Proofs.Ytedolmjealgeoaa.Mk
