/- Numbers to the base of 64, plain: what the printed Top, Digits, Sum tell. Conditions: numbers of 64 bits. -/
import Derived.Test.YtedolmjealgeoaaDoorPBasex4
import Derived.Test.YtedolmjealgeoaaDoorGd
import Derived.Deep.RegionHeld3
import Derived.Maps.RangeWalk
namespace Go.Proofs.YtedolmjealgeoaaDoor.Tk
open Go.RowKit Go.Proofs.YtedolmjealgeoaaDoor.PBase Go.Proofs.YtedolmjealgeoaaDoor.Gv Go.Proofs.YtedolmjealgeoaaDoorW.PrintWords Go.Proofs.YtedolmjealgeoaaDoorW.PrintLast Go.Proofs.YtedolmjealgeoaaDoorW.PrintMore
set_option linter.unusedVariables false
def U (m : Int) : Prop := 0 ≤ m ∧ m < 18446744073709551616
theorem sum {a b : Int} (ha : U a) (hb : U b) : tick_Sum.f a b = some (if a + b < 18446744073709551616 then (a + b, true) else (0, false)) := by
  unfold U at ha hb
  unfold Gv.tick_Sum.f Add.tick_Sum.f
  rw [if_pos ha.1, if_pos hb.1]
  congr 1
  by_cases h : a + b < 18446744073709551616
  · rw [if_pos h, if_pos (by omega)]
    congr 1
    omega
  · rw [if_neg h, if_neg (by omega)]
def q : Nat → Int → Int
  | 0, x => x
  | i + 1, x => q i x / 64
def dg (x : Int) (i : Nat) : Int := q i x % 64
theorem q_eq : ∀ (i : Nat) (x : Int), q i x = x / 64 ^ i
  | 0, x => by rw [q, Int.pow_zero, Int.ediv_one]
  | i + 1, x => by rw [q, q_eq i x, Int.ediv_ediv_of_nonneg (by exact Int.pow_nonneg (by decide)), Int.pow_succ]
theorem wq {x : Int} (h : U x) : IntKind.u64.wrap (Int.tdiv x 64) = x / 64 := by
  unfold U at h
  rw [IntKind.wrap_u64, Int.tdiv_eq_ediv_of_nonneg h.1]
  omega
theorem wm {x : Int} (h : U x) : wrap64 (Int.tmod x 64) = x % 64 := by
  unfold U at h
  rw [Int.tmod_eq_emod_of_nonneg h.1]
  unfold wrap64
  omega
theorem U_q {x : Int} (h : U x) : U (x / 64) := by unfold U at *; omega
def dgs (x : Int) : Int × Int × Int × Int × Int × Int × Int × Int × Int × Int × Int := (dg x 0, dg x 1, dg x 2, dg x 3, dg x 4, dg x 5, dg x 6, dg x 7, dg x 8, dg x 9, dg x 10)

theorem step0 (k : Nat) (x d0 d1 d2 d3 d4 d5 d6 d7 d8 d9 d10 : Int) (hx : U x) : tick_Digits.l0 (k + 1) x 0 d0 d1 d2 d3 d4 d5 d6 d7 d8 d9 d10 = tick_Digits.l0 k (x / 64) 1 (x % 64) d1 d2 d3 d4 d5 d6 d7 d8 d9 d10 := by
  rw [tick_Digits.l0, if_pos (by decide), if_pos rfl, wq hx, wm hx, show wrap64 ((0 : Int) + 1) = 1 by decide +kernel]

theorem step1 (k : Nat) (x d0 d1 d2 d3 d4 d5 d6 d7 d8 d9 d10 : Int) (hx : U x) : tick_Digits.l0 (k + 1) x 1 d0 d1 d2 d3 d4 d5 d6 d7 d8 d9 d10 = tick_Digits.l0 k (x / 64) 2 d0 (x % 64) d2 d3 d4 d5 d6 d7 d8 d9 d10 := by
  rw [tick_Digits.l0, if_pos (by decide), if_neg (by decide), if_pos rfl, wq hx, wm hx, show wrap64 ((1 : Int) + 1) = 2 by decide +kernel]

theorem step2 (k : Nat) (x d0 d1 d2 d3 d4 d5 d6 d7 d8 d9 d10 : Int) (hx : U x) : tick_Digits.l0 (k + 1) x 2 d0 d1 d2 d3 d4 d5 d6 d7 d8 d9 d10 = tick_Digits.l0 k (x / 64) 3 d0 d1 (x % 64) d3 d4 d5 d6 d7 d8 d9 d10 := by
  rw [tick_Digits.l0, if_pos (by decide), if_neg (by decide), if_neg (by decide), if_pos rfl, wq hx, wm hx, show wrap64 ((2 : Int) + 1) = 3 by decide +kernel]

theorem step3 (k : Nat) (x d0 d1 d2 d3 d4 d5 d6 d7 d8 d9 d10 : Int) (hx : U x) : tick_Digits.l0 (k + 1) x 3 d0 d1 d2 d3 d4 d5 d6 d7 d8 d9 d10 = tick_Digits.l0 k (x / 64) 4 d0 d1 d2 (x % 64) d4 d5 d6 d7 d8 d9 d10 := by
  rw [tick_Digits.l0, if_pos (by decide), if_neg (by decide), if_neg (by decide), if_neg (by decide), if_pos rfl, wq hx, wm hx, show wrap64 ((3 : Int) + 1) = 4 by decide +kernel]

theorem step4 (k : Nat) (x d0 d1 d2 d3 d4 d5 d6 d7 d8 d9 d10 : Int) (hx : U x) : tick_Digits.l0 (k + 1) x 4 d0 d1 d2 d3 d4 d5 d6 d7 d8 d9 d10 = tick_Digits.l0 k (x / 64) 5 d0 d1 d2 d3 (x % 64) d5 d6 d7 d8 d9 d10 := by
  rw [tick_Digits.l0, if_pos (by decide), if_neg (by decide), if_neg (by decide), if_neg (by decide), if_neg (by decide), if_pos rfl, wq hx, wm hx, show wrap64 ((4 : Int) + 1) = 5 by decide +kernel]

theorem step5 (k : Nat) (x d0 d1 d2 d3 d4 d5 d6 d7 d8 d9 d10 : Int) (hx : U x) : tick_Digits.l0 (k + 1) x 5 d0 d1 d2 d3 d4 d5 d6 d7 d8 d9 d10 = tick_Digits.l0 k (x / 64) 6 d0 d1 d2 d3 d4 (x % 64) d6 d7 d8 d9 d10 := by
  rw [tick_Digits.l0, if_pos (by decide), if_neg (by decide), if_neg (by decide), if_neg (by decide), if_neg (by decide), if_neg (by decide), if_pos rfl, wq hx, wm hx, show wrap64 ((5 : Int) + 1) = 6 by decide +kernel]

theorem step6 (k : Nat) (x d0 d1 d2 d3 d4 d5 d6 d7 d8 d9 d10 : Int) (hx : U x) : tick_Digits.l0 (k + 1) x 6 d0 d1 d2 d3 d4 d5 d6 d7 d8 d9 d10 = tick_Digits.l0 k (x / 64) 7 d0 d1 d2 d3 d4 d5 (x % 64) d7 d8 d9 d10 := by
  rw [tick_Digits.l0, if_pos (by decide), if_neg (by decide), if_neg (by decide), if_neg (by decide), if_neg (by decide), if_neg (by decide), if_neg (by decide), if_pos rfl, wq hx, wm hx, show wrap64 ((6 : Int) + 1) = 7 by decide +kernel]

theorem step7 (k : Nat) (x d0 d1 d2 d3 d4 d5 d6 d7 d8 d9 d10 : Int) (hx : U x) : tick_Digits.l0 (k + 1) x 7 d0 d1 d2 d3 d4 d5 d6 d7 d8 d9 d10 = tick_Digits.l0 k (x / 64) 8 d0 d1 d2 d3 d4 d5 d6 (x % 64) d8 d9 d10 := by
  rw [tick_Digits.l0, if_pos (by decide), if_neg (by decide), if_neg (by decide), if_neg (by decide), if_neg (by decide), if_neg (by decide), if_neg (by decide), if_neg (by decide), if_pos rfl, wq hx, wm hx, show wrap64 ((7 : Int) + 1) = 8 by decide +kernel]

theorem step8 (k : Nat) (x d0 d1 d2 d3 d4 d5 d6 d7 d8 d9 d10 : Int) (hx : U x) : tick_Digits.l0 (k + 1) x 8 d0 d1 d2 d3 d4 d5 d6 d7 d8 d9 d10 = tick_Digits.l0 k (x / 64) 9 d0 d1 d2 d3 d4 d5 d6 d7 (x % 64) d9 d10 := by
  rw [tick_Digits.l0, if_pos (by decide), if_neg (by decide), if_neg (by decide), if_neg (by decide), if_neg (by decide), if_neg (by decide), if_neg (by decide), if_neg (by decide), if_neg (by decide), if_pos rfl, wq hx, wm hx, show wrap64 ((8 : Int) + 1) = 9 by decide +kernel]

theorem step9 (k : Nat) (x d0 d1 d2 d3 d4 d5 d6 d7 d8 d9 d10 : Int) (hx : U x) : tick_Digits.l0 (k + 1) x 9 d0 d1 d2 d3 d4 d5 d6 d7 d8 d9 d10 = tick_Digits.l0 k (x / 64) 10 d0 d1 d2 d3 d4 d5 d6 d7 d8 (x % 64) d10 := by
  rw [tick_Digits.l0, if_pos (by decide), if_neg (by decide), if_neg (by decide), if_neg (by decide), if_neg (by decide), if_neg (by decide), if_neg (by decide), if_neg (by decide), if_neg (by decide), if_neg (by decide), if_pos rfl, wq hx, wm hx, show wrap64 ((9 : Int) + 1) = 10 by decide +kernel]

theorem step10 (k : Nat) (x d0 d1 d2 d3 d4 d5 d6 d7 d8 d9 d10 : Int) (hx : U x) : tick_Digits.l0 (k + 1) x 10 d0 d1 d2 d3 d4 d5 d6 d7 d8 d9 d10 = tick_Digits.l0 k (x / 64) 11 d0 d1 d2 d3 d4 d5 d6 d7 d8 d9 (x % 64) := by
  rw [tick_Digits.l0, if_pos (by decide), if_neg (by decide), if_neg (by decide), if_neg (by decide), if_neg (by decide), if_neg (by decide), if_neg (by decide), if_neg (by decide), if_neg (by decide), if_neg (by decide), if_neg (by decide), if_pos rfl, wq hx, wm hx, show wrap64 ((10 : Int) + 1) = 11 by decide +kernel]

theorem digits {x : Int} (hx : U x) (k : Nat) : tick_Digits.f (k + 12) x = some (dgs x) := by
  have u1 := U_q hx
  have u2 := U_q u1
  have u3 := U_q u2
  have u4 := U_q u3
  have u5 := U_q u4
  have u6 := U_q u5
  have u7 := U_q u6
  have u8 := U_q u7
  have u9 := U_q u8
  have u10 := U_q u9
  have u11 := U_q u10
  unfold tick_Digits.f
  rw [show k + 12 = k + 11 + 1 from rfl, step0 _ _ _ _ _ _ _ _ _ _ _ _ _ hx, show k + 11 = k + 10 + 1 from rfl, step1 _ _ _ _ _ _ _ _ _ _ _ _ _ u1, show k + 10 = k + 9 + 1 from rfl, step2 _ _ _ _ _ _ _ _ _ _ _ _ _ u2, show k + 9 = k + 8 + 1 from rfl, step3 _ _ _ _ _ _ _ _ _ _ _ _ _ u3, show k + 8 = k + 7 + 1 from rfl, step4 _ _ _ _ _ _ _ _ _ _ _ _ _ u4, show k + 7 = k + 6 + 1 from rfl, step5 _ _ _ _ _ _ _ _ _ _ _ _ _ u5, show k + 6 = k + 5 + 1 from rfl, step6 _ _ _ _ _ _ _ _ _ _ _ _ _ u6, show k + 5 = k + 4 + 1 from rfl, step7 _ _ _ _ _ _ _ _ _ _ _ _ _ u7, show k + 4 = k + 3 + 1 from rfl, step8 _ _ _ _ _ _ _ _ _ _ _ _ _ u8, show k + 3 = k + 2 + 1 from rfl, step9 _ _ _ _ _ _ _ _ _ _ _ _ _ u9, show k + 2 = k + 1 + 1 from rfl, step10 _ _ _ _ _ _ _ _ _ _ _ _ _ u10, tick_Digits.l0, if_neg (by decide)]
  rfl

theorem len_le : ∀ (f x k : Nat), x < 2 ^ f → (Lib.bitLenAux f x ≤ k ↔ x < 2 ^ k)
  | 0, x, k, h => by
    have hx : x = 0 := by rw [Nat.pow_zero] at h; omega
    subst hx
    have := Nat.pow_pos (n := k) (show 0 < 2 by decide)
    unfold Lib.bitLenAux
    omega
  | f + 1, x, k, h => by
    unfold Lib.bitLenAux
    by_cases hx : x = 0
    · subst hx
      have := Nat.pow_pos (n := k) (show 0 < 2 by decide)
      rw [if_pos rfl]
      omega
    · rw [if_neg hx]
      rw [Nat.pow_succ] at h
      cases k with
      | zero => rw [Nat.pow_zero]; omega
      | succ k =>
        have := len_le f (x / 2) k (by omega)
        rw [Nat.pow_succ]
        omega
def IsTop (a b k : Int) : Prop := (k = -1 ∧ a = b) ∨ (0 ≤ k ∧ k ≤ 10 ∧ q (k.toNat + 1) a = q (k.toNat + 1) b ∧ q k.toNat a ≠ q k.toNat b)
theorem q_nat (i n : Nat) : q i (n : Int) = ((n / 2 ^ (6 * i) : Nat) : Int) := by
  rw [q_eq, Nat.pow_mul, show (2 : Nat) ^ 6 = 64 from rfl]
  push_cast
  rfl
theorem xor0 (n m : Nat) : n ^^^ m = 0 ↔ n = m := by
  constructor
  · intro h
    apply Nat.eq_of_testBit_eq
    intro i
    have h2 : (n ^^^ m).testBit i = false := by rw [h, Nat.zero_testBit]
    rw [Nat.testBit_xor] at h2
    revert h2
    cases n.testBit i <;> cases m.testBit i <;> decide
  · rintro rfl
    exact Nat.xor_self _
theorem top {a b : Int} (ha : U a) (hb : U b) : ∃ k, tick_Top.f a b = some k ∧ IsTop a b k := by
  unfold tick_Top.f
  by_cases he : a = b
  · rw [if_pos he]
    exact ⟨_, rfl, .inl ⟨rfl, he⟩⟩
  unfold U at ha hb
  obtain ⟨n, rfl⟩ := Int.eq_ofNat_of_zero_le ha.1
  obtain ⟨m, rfl⟩ := Int.eq_ofNat_of_zero_le hb.1
  have hlt : n ^^^ m < 2 ^ 64 := Nat.xor_lt_two_pow (by rw [show (2 : Nat) ^ 64 = 18446744073709551616 by decide]; omega) (by rw [show (2 : Nat) ^ 64 = 18446744073709551616 by decide]; omega)
  have hne : n ^^^ m ≠ 0 := fun h => he (by rw [(xor0 _ _).1 h])
  have hb' : Go.bits .xor .u64 (n : Int) (m : Int) = ((n ^^^ m : Nat) : Int) := by
    rw [u64_xor _ _ ha.1 ha.2 hb.1 hb.2, Int.toNat_natCast, Int.toNat_natCast]
  have le1 := fun k => len_le 64 (n ^^^ m) k hlt
  have le2 : Lib.bitLenAux 64 (n ^^^ m) ≤ 64 := (le1 64).2 hlt
  have le0 : ¬ Lib.bitLenAux 64 (n ^^^ m) ≤ 0 := fun h => hne (by have := (le1 0).1 h; rw [Nat.pow_zero] at this; omega)
  have xd : ∀ i, (n ^^^ m) / 2 ^ i = n / 2 ^ i ^^^ m / 2 ^ i := fun i => by rw [← Nat.shiftRight_eq_div_pow, ← Nat.shiftRight_eq_div_pow, ← Nat.shiftRight_eq_div_pow, Nat.shiftRight_xor_distrib]
  have xd' : ∀ i, (n ^^^ m) < 2 ^ i ↔ n / 2 ^ i = m / 2 ^ i := fun i => by
    rw [← xor0, ← xd, Nat.div_eq_zero_iff_lt (Nat.pow_pos (by decide))]
  rw [show (2 : Nat) ^ 64 = 18446744073709551616 by decide] at hlt
  unfold Gv.bits_Len64.f Add.bits_Len64.f
  rw [if_neg he, hb', if_pos (Int.natCast_nonneg _), if_pos (by omega), Int.toNat_natCast, Option.bind_some]
  unfold Lib.bitLen
  obtain ⟨L, hL⟩ : ∃ L, Lib.bitLenAux 64 (n ^^^ m) = L := ⟨_, rfl⟩
  rw [hL] at le0 le2 ⊢
  obtain ⟨k, hk⟩ : ∃ k, (L - 1) / 6 = k := ⟨_, rfl⟩
  have w1 : wrap64 (Int.tdiv (wrap64 ((L : Int) - 1)) 6) = (k : Int) := by
    rw [show wrap64 ((L : Int) - 1) = L - 1 by unfold wrap64; omega, Int.tdiv_eq_ediv_of_nonneg (by omega)]
    unfold wrap64
    omega
  rw [w1]
  refine ⟨_, rfl, .inr ⟨by omega, by omega, ?_, ?_⟩⟩
  · rw [Int.toNat_natCast, q_nat, q_nat, (xd' (6 * (k + 1))).1 ((le1 _).1 (by omega))]
  · rw [Int.toNat_natCast, q_nat, q_nat]
    intro h
    have := (le1 (6 * k)).2 ((xd' (6 * k)).2 (by exact Int.ofNat_inj.1 h))
    omega
theorem q_up {a b : Int} {i : Nat} (h : q i a = q i b) : ∀ (d : Nat), q (i + d) a = q (i + d) b
  | 0 => h
  | d + 1 => by show q (i + d) a / 64 = q (i + d) b / 64; rw [q_up h d]
theorem q_down {a b : Int} {i : Nat} (h : q (i + 1) a = q (i + 1) b) (hd : dg a i = dg b i) : q i a = q i b := by
  have h' : q i a / 64 = q i b / 64 := h
  unfold dg at hd
  omega
theorem IsTop.unique {a b k l : Int} (h : IsTop a b k) (g : IsTop a b l) : k = l := by
  have no : ∀ {i : Nat}, a = b → q i a ≠ q i b → False := fun e hn => hn (by rw [e])
  rcases h with ⟨rfl, h⟩ | ⟨h0, h1, h2, h3⟩
  · rcases g with ⟨rfl, g⟩ | ⟨g0, g1, g2, g3⟩
    · rfl
    · exact (no h g3).elim
  · rcases g with ⟨rfl, g⟩ | ⟨g0, g1, g2, g3⟩
    · exact (no g h3).elim
    · rcases Int.lt_trichotomy k l with hlt | he | hlt
      · have := q_up h2 (l.toNat - (k.toNat + 1))
        rw [show k.toNat + 1 + (l.toNat - (k.toNat + 1)) = l.toNat by omega] at this
        exact (g3 this).elim
      · exact he
      · have := q_up g2 (k.toNat - (l.toNat + 1))
        rw [show l.toNat + 1 + (k.toNat - (l.toNat + 1)) = k.toNat by omega] at this
        exact (h3 this).elim
theorem q11 {a : Int} (h : U a) : q 11 a = 0 := by
  unfold U at h
  simp only [q]
  omega


end Go.Proofs.YtedolmjealgeoaaDoor.Tk

namespace Go.Proofs.YtedolmjealgeoaaDoor.Tk
open Go.RowKit Go.Proofs.YtedolmjealgeoaaDoor.PBase Go.Proofs.YtedolmjealgeoaaDoor.Gv Go.Proofs.YtedolmjealgeoaaDoorW.PrintWords Go.Proofs.YtedolmjealgeoaaDoorW.PrintLast Go.Proofs.YtedolmjealgeoaaDoorW.PrintMore
set_option linter.unusedVariables false
theorem rsum {a b : Int} (ha : U a) (hb : U b) : remontoirref01_Sum.f a b = some (if a + b < 18446744073709551616 then (a + b, true) else (0, false)) := by
  unfold U at ha hb
  unfold remontoirref01_Sum.f
  rw [IntKind.wrap_u64, IntKind.wrap_u64]
  by_cases h : a + b < 18446744073709551616
  · rw [if_pos h, if_neg (by omega)]
    congr 2
    omega
  · rw [if_neg h, if_pos (by omega)]

end Go.Proofs.YtedolmjealgeoaaDoor.Tk

set_option linter.unusedVariables false
namespace Go.Proofs.YtedolmjealgeoaaDoor.Tk
open Go.RowKit Go.Proofs.YtedolmjealgeoaaDoor.PBase Go.Proofs.YtedolmjealgeoaaDoor.Rg
def lvf (a b : Int) : Nat → Nat → Nat
  | 0, i => i
  | f + 1, i => if q (i + 1) a = q (i + 1) b then i else lvf a b f (i + 1)
/-- The level of a against b. -/
def lv (a b : Int) : Nat := lvf a b 10 0
theorem lvf_spec {a b : Int} (ha : U a) (hb : U b) : ∀ (f i : Nat), i + f = 10 → (i = 0 ∨ q i a ≠ q i b) → q (lvf a b f i + 1) a = q (lvf a b f i + 1) b ∧ (lvf a b f i = 0 ∨ q (lvf a b f i) a ≠ q (lvf a b f i) b) ∧ lvf a b f i ≤ 10
  | 0, i, h, hi => by
    obtain rfl : i = 10 := by omega
    refine ⟨?_, hi, Nat.le_refl _⟩
    show q 11 a = q 11 b
    rw [q11 ha, q11 hb]
  | f + 1, i, h, hi => by
    unfold lvf
    by_cases e : q (i + 1) a = q (i + 1) b
    · rw [if_pos e]
      exact ⟨e, hi, by omega⟩
    · rw [if_neg e]
      exact lvf_spec ha hb f (i + 1) (by omega) (.inr e)
theorem lv_spec {a b : Int} (ha : U a) (hb : U b) : q (lv a b + 1) a = q (lv a b + 1) b ∧ (lv a b = 0 ∨ q (lv a b) a ≠ q (lv a b) b) ∧ lv a b ≤ 10 := lvf_spec ha hb 10 0 rfl (.inl rfl)
theorem q_upto {a b : Int} {i j : Nat} (h : q i a = q i b) (hij : i ≤ j) : q j a = q j b := by
  have := q_up h (j - i)
  rwa [show i + (j - i) = j by omega] at this
theorem lv_uniq {a b : Int} (ha : U a) (hb : U b) {i : Nat} (h : q (i + 1) a = q (i + 1) b) (h2 : i = 0 ∨ q i a ≠ q i b) : lv a b = i := by
  obtain ⟨k1, k2, k3⟩ := lv_spec ha hb
  rcases Nat.lt_trichotomy (lv a b) i with hl | he | hl
  · rcases h2 with h2 | h2
    · omega
    · exact (h2 (q_upto k1 hl)).elim
  · exact he
  · rcases k2 with k2 | k2
    · omega
    · exact (k2 (q_upto h hl)).elim
theorem lv_top {a b k : Int} (ha : U a) (hb : U b) (h : IsTop a b k) : (lv a b : Int) = if k < 0 then 0 else k := by
  rcases h with ⟨rfl, rfl⟩ | ⟨h0, h1, h2, h3⟩
  · rw [if_pos (by decide), lv_uniq ha hb (i := 0) rfl (.inl rfl)]
    rfl
  · rw [if_neg (by omega), lv_uniq ha hb h2 (.inr h3)]
    omega
theorem q_mono {a b : Int} (h : a ≤ b) : ∀ i, q i a ≤ q i b
  | 0 => h
  | i + 1 => Int.ediv_le_ediv (by decide) (q_mono h i)
theorem lt_of_q {a b : Int} {i : Nat} (h : q i a < q i b) : a < b := Int.not_le.1 (fun e => by have := q_mono e i; omega)
theorem q_dg (a : Int) (i : Nat) : q i a = 64 * q (i + 1) a + dg a i := by
  show q i a = 64 * (q i a / 64) + q i a % 64
  omega
theorem dg_range (a : Int) (i : Nat) : 0 ≤ dg a i ∧ dg a i < 64 := by
  unfold dg
  omega
/-- A lower level comes first. -/
theorem lv_lt {a b now : Int} (ha : U a) (hb : U b) (hn : U now) (hb2 : now ≤ b) (h : lv a now < lv b now) : a < b := by
  obtain ⟨k1, _, _⟩ := lv_spec ha hn
  obtain ⟨j1, j2, _⟩ := lv_spec hb hn
  refine lt_of_q (i := lv a now + 1) ?_
  have h1 := q_mono hb2 (lv a now + 1)
  have h2 : q (lv a now + 1) b ≠ q (lv a now + 1) now := fun e => by
    rcases j2 with j2 | j2
    · omega
    · exact j2 (q_upto e h)
  omega
/-- On one level, a lower digit comes first. -/
theorem dg_lt {a b now : Int} (ha : U a) (hb : U b) (hn : U now) {i : Nat} (h1 : lv a now = i) (h2 : lv b now = i) (h : dg a i < dg b i) : a < b := by
  obtain ⟨k1, _, _⟩ := lv_spec ha hn
  obtain ⟨j1, _, _⟩ := lv_spec hb hn
  rw [h1] at k1
  rw [h2] at j1
  refine lt_of_q (i := i) ?_
  rw [q_dg a i, q_dg b i]
  omega
/-- A turn: who isn't on its level, or not in its slot, stays. -/
theorem turn_stay {a now tm : Int} {k : Nat} (ha : U a) (hn : U now) (ht : U tm) (hk1 : q (k + 1) tm = q (k + 1) now) (hk2 : q k tm ≠ q k now) (hnt : now < tm) (hta : tm ≤ a) (h : ¬ (lv a now = k ∧ dg a k = dg tm k)) : lv a tm = lv a now ∧ k ≤ lv a now := by
  obtain ⟨j1, j2, j3⟩ := lv_spec ha hn
  have hm := q_mono (Int.le_of_lt hnt)
  have hle : k ≤ lv a now := by
    rcases Nat.lt_or_ge (lv a now) k with hl | hl
    · exfalso
      have e1 := q_upto j1 hl
      have : q k tm > q k a := by
        have := hm k
        omega
      have := lt_of_q this
      omega
    · exact hl
  refine ⟨?_, hle⟩
  rcases Nat.lt_or_ge k (lv a now) with hl | hl
  · refine lv_uniq ha ht (j1.trans (q_upto hk1 (by omega)).symm) (.inr (fun e => ?_))
    rcases j2 with j2 | j2
    · omega
    · exact j2 (e.trans (q_upto hk1 hl))
  · have e1 : lv a now = k := by omega
    rw [e1] at j1 ⊢
    refine lv_uniq ha ht (j1.trans hk1.symm) (.inr (fun e => ?_))
    exact h ⟨e1, by unfold dg; rw [e]⟩
theorem turn_ge {a now tm : Int} {k : Nat} (ha : U a) (hn : U now) (ht : U tm) (hk1 : q (k + 1) tm = q (k + 1) now) (hk2 : q k tm ≠ q k now) (hnt : now < tm) (hta : tm ≤ a) : k ≤ lv a now := by
  by_cases h : lv a now = k ∧ dg a k = dg tm k
  · omega
  · exact (turn_stay ha hn ht hk1 hk2 hnt hta h).2
/-! ### Timers by level -/
/-- The timers of a level, laid in slots. -/
def rgT (now : Int) (T : List S31) (i : Nat) : List S114 := (T.filter (fun d => lv d.f1 now == i)).map (fun d => ⟨dg d.f1 i, d⟩)
/-- Those beyond the rings. -/
def farT (now : Int) (T : List S31) : List S31 := T.filter (fun d => decide (6 ≤ lv d.f1 now))
/-- A number's time. -/
def tof (T : List S31) (x : Int) : Option Int := (T.find? (fun d => d.f0 == x)).map (·.f1)
/-- Timers of a wheel that stands at now. -/
structure TT (now : Int) (T : List S31) : Prop where
  nd : (ids T).Nodup
  wf : ∀ d ∈ T, (Lit.int .i64 d.f0).wf = true
  u : ∀ d ∈ T, U d.f1
  ge : ∀ d ∈ T, now ≤ d.f1
  un : U now
theorem TT.nil {now : Int} (h : U now) : TT now [] := ⟨List.nodup_nil, fun d h => absurd h List.not_mem_nil, fun d h => absurd h List.not_mem_nil, fun d h => absurd h List.not_mem_nil, h⟩
theorem TT.perm {now : Int} {T V : List S31} (h : TT now T) (p : T.Perm V) : TT now V := ⟨(p.map _).nodup_iff.1 h.nd, fun d hd => h.wf d (p.mem_iff.2 hd), fun d hd => h.u d (p.mem_iff.2 hd), fun d hd => h.ge d (p.mem_iff.2 hd), h.un⟩
theorem TT.filter {now : Int} {T : List S31} (h : TT now T) (p : S31 → Bool) : TT now (T.filter p) := ⟨h.nd.sublist (List.filter_sublist.map _), fun d hd => h.wf d (List.mem_filter.1 hd).1, fun d hd => h.u d (List.mem_filter.1 hd).1, fun d hd => h.ge d (List.mem_filter.1 hd).1, h.un⟩
theorem TT.cons {now : Int} {T : List S31} (h : TT now T) {d : S31} (h1 : d.f0 ∉ ids T) (h2 : (Lit.int .i64 d.f0).wf = true) (h3 : U d.f1) (h4 : now ≤ d.f1) : TT now (d :: T) := by
  refine ⟨List.nodup_cons.2 ⟨h1, h.nd⟩, fun e he => ?_, fun e he => ?_, fun e he => ?_, h.un⟩ <;> rcases List.mem_cons.1 he with rfl | he
  · exact h2
  · exact h.wf e he
  · exact h3
  · exact h.u e he
  · exact h4
  · exact h.ge e he
theorem TT.tm {now tm : Int} {T : List S31} (h : TT now T) (ht : U tm) (hg : ∀ d ∈ T, tm ≤ d.f1) : TT tm T := ⟨h.nd, h.wf, h.u, hg, ht⟩
theorem tof_cons (d : S31) (T : List S31) (x : Int) : tof (d :: T) x = if d.f0 = x then some d.f1 else tof T x := by
  unfold tof
  by_cases h : d.f0 = x
  · rw [List.find?_cons_of_pos (by simpa using h), if_pos h]
    rfl
  · rw [List.find?_cons_of_neg (by simpa using h), if_neg h]
theorem tof_none {T : List S31} {x : Int} : tof T x = none ↔ x ∉ ids T := by
  induction T with
  | nil => simp [tof, ids]
  | cons d T ih =>
    rw [tof_cons]
    by_cases h : d.f0 = x
    · rw [if_pos h]
      simp [ids, h]
    · rw [if_neg h, ih]
      simp [ids, Ne.symm h]
theorem tof_mem {T : List S31} (h : (ids T).Nodup) {d : S31} (hd : d ∈ T) : tof T d.f0 = some d.f1 := by
  induction T with
  | nil => exact absurd hd List.not_mem_nil
  | cons a T ih =>
    rw [tof_cons]
    have hn := List.nodup_cons.1 h
    rcases List.mem_cons.1 hd with rfl | hd
    · rw [if_pos rfl]
    · have : a.f0 ≠ d.f0 := fun e => hn.1 (List.mem_map.2 ⟨d, hd, e.symm⟩)
      rw [if_neg this, ih hn.2 hd]
theorem tof_get {T : List S31} {x j : Int} (h : tof T x = some j) : (⟨x, j⟩ : S31) ∈ T := by
  unfold tof at h
  obtain ⟨d, h1, h2⟩ := Option.map_eq_some_iff.1 h
  have h3 : d.f0 = x := by simpa using List.find?_some h1
  have : (⟨x, j⟩ : S31) = d := by rw [← h3, ← h2]
  rw [this]
  exact List.mem_of_find?_eq_some h1
theorem tof_put {T : List S31} {d : S31} (x : Int) : tof (d :: T) x = upd (tof T) d.f0 (some d.f1) x := by
  rw [tof_cons]
  unfold upd
  by_cases h : d.f0 = x
  · rw [if_pos h, if_pos h.symm]
  · rw [if_neg h, if_neg (Ne.symm h)]
theorem ids_rm {T : List S31} {id x : Int} : x ∈ ids (rm T id) ↔ x ∈ ids T ∧ x ≠ id := by
  unfold ids rm
  rw [List.mem_map, List.mem_map]
  constructor
  · rintro ⟨d, hd, rfl⟩
    have := List.mem_filter.1 hd
    exact ⟨⟨d, this.1, rfl⟩, by simpa using this.2⟩
  · rintro ⟨⟨d, hd, rfl⟩, h⟩
    exact ⟨d, List.mem_filter.2 ⟨hd, by simpa using h⟩, rfl⟩
theorem nd_rm {T : List S31} (h : (ids T).Nodup) (id : Int) : (ids (rm T id)).Nodup := h.sublist (List.filter_sublist.map _)
theorem tof_rm {T : List S31} (h : (ids T).Nodup) (id x : Int) : tof (rm T id) x = upd (tof T) id none x := by
  unfold upd
  by_cases hx : x = id
  · rw [if_pos hx, tof_none, ids_rm]
    exact fun e => e.2 hx
  · rw [if_neg hx]
    by_cases hi : x ∈ ids T
    · obtain ⟨d, hd, rfl⟩ := List.mem_map.1 hi
      rw [tof_mem h hd, tof_mem (nd_rm h id) (List.mem_filter.2 ⟨hd, by simpa using hx⟩)]
    · rw [tof_none.2 hi, tof_none, ids_rm]
      exact fun e => hi e.1
theorem tof_perm {T V : List S31} (p : T.Perm V) (h : (ids T).Nodup) (x : Int) : tof T x = tof V x := by
  have h2 : (ids V).Nodup := (p.map _).nodup_iff.1 h
  by_cases hi : x ∈ ids T
  · obtain ⟨d, hd, rfl⟩ := List.mem_map.1 hi
    rw [tof_mem h hd, tof_mem h2 (p.mem_iff.1 hd)]
  · rw [tof_none.2 hi, tof_none.2 (fun e => hi ((p.map _).mem_iff.2 e))]
theorem rm_len {T : List S31} (h : (ids T).Nodup) {d : S31} (hd : d ∈ T) : (rm T d.f0).length = T.length - 1 := by
  induction T with
  | nil => exact absurd hd List.not_mem_nil
  | cons a T ih =>
    have hn := List.nodup_cons.1 h
    unfold rm
    rcases List.mem_cons.1 hd with rfl | hd
    · rw [List.filter_cons_of_neg (by simp), List.filter_eq_self.2 (fun y hy => ?_)]
      · simp
      · have : y.f0 ≠ d.f0 := fun e => hn.1 (List.mem_map.2 ⟨y, hy, e⟩)
        simpa using this
    · have : a.f0 ≠ d.f0 := fun e => hn.1 (List.mem_map.2 ⟨d, hd, e.symm⟩)
      rw [List.filter_cons_of_pos (by simpa using this), List.length_cons]
      have := ih hn.2 hd
      unfold rm at this
      rw [this, List.length_cons]
      have : 0 < T.length := List.length_pos_of_mem hd
      omega
theorem rg_cons (now : Int) (d : S31) (T : List S31) (i : Nat) : rgT now (d :: T) i = if lv d.f1 now = i then ⟨dg d.f1 i, d⟩ :: rgT now T i else rgT now T i := by
  unfold rgT
  by_cases h : lv d.f1 now = i
  · rw [List.filter_cons_of_pos (by simpa using h), if_pos h]
    rfl
  · rw [List.filter_cons_of_neg (by simpa using h), if_neg h]
theorem far_cons (now : Int) (d : S31) (T : List S31) : farT now (d :: T) = if 6 ≤ lv d.f1 now then d :: farT now T else farT now T := by
  unfold farT
  by_cases h : 6 ≤ lv d.f1 now
  · rw [List.filter_cons_of_pos (by simpa using h), if_pos h]
  · rw [List.filter_cons_of_neg (by simpa using h), if_neg h]
theorem rg_perm {now : Int} {T V : List S31} (p : T.Perm V) (i : Nat) : (rgT now T i).Perm (rgT now V i) := (p.filter _).map _
theorem far_perm {now : Int} {T V : List S31} (p : T.Perm V) : (farT now T).Perm (farT now V) := p.filter _
theorem rg_len (now : Int) (T : List S31) (i : Nat) : (rgT now T i).length ≤ T.length := by
  unfold rgT
  rw [List.length_map]
  exact List.length_filter_le _ _
theorem far_len (now : Int) (T : List S31) : (farT now T).length ≤ T.length := List.length_filter_le _ _
theorem rg_tid {now : Int} {T : List S31} {i : Nat} {x : Int} (h : x ∈ tid (rgT now T i)) : x ∈ ids T := by
  unfold tid rgT at h
  rw [List.map_map] at h
  obtain ⟨d, hd, rfl⟩ := List.mem_map.1 h
  exact List.mem_map.2 ⟨d, (List.mem_filter.1 hd).1, rfl⟩
theorem far_ids {now : Int} {T : List S31} {x : Int} (h : x ∈ ids (farT now T)) : x ∈ ids T := by
  obtain ⟨d, hd, rfl⟩ := List.mem_map.1 h
  exact List.mem_map.2 ⟨d, (List.mem_filter.1 hd).1, rfl⟩
theorem rg_drop (now : Int) (T : List S31) (i : Nat) (id : Int) : rgT now (rm T id) i = dropT (rgT now T i) id := by
  unfold rgT dropT rm
  rw [List.filter_filter, List.filter_map, List.filter_filter]
  congr 1
  apply List.filter_congr
  intro l _
  rw [Bool.and_comm]
  rfl
theorem far_rm (now : Int) (T : List S31) (id : Int) : farT now (rm T id) = rm (farT now T) id := by
  unfold farT rm
  rw [List.filter_filter, List.filter_filter]
  apply List.filter_congr
  intro l _
  rw [Bool.and_comm]
theorem rg_at (now : Int) (T : List S31) (i : Nat) (s : Int) : atS (rgT now T i) s = T.filter (fun d => lv d.f1 now == i && dg d.f1 i == s) := by
  unfold atS rgT
  rw [List.filter_map, List.map_map, List.filter_filter]
  have : (fun d : S31 => ((fun l : S114 => l.f0 == s) ∘ (fun d => ⟨dg d.f1 i, d⟩)) d && (lv d.f1 now == i)) = (fun d => lv d.f1 now == i && dg d.f1 i == s) := by
    funext d
    rw [Bool.and_comm]
    rfl
  rw [this]
  exact List.map_id'' (fun _ => rfl) _
/-! ### The first one -/
theorem head_filter {T : List S31} (p : S31 → Bool) (hp : ∃ d ∈ T, p d = true) (h : ∀ d ∈ T, ∀ e ∈ T, p d = true → p e = false → d.f1 < e.f1) : (psort T).head? = (psort (T.filter p)).head? := by
  obtain ⟨x, hx, hpx⟩ := hp
  have e1 : psort T = psort (T.filter p) ++ psort (T.filter (fun d => !p d)) := by
    refine psort_of ?_ ?_
    · refine List.pairwise_append.2 ⟨psort_so _, psort_so _, fun a ha b hb => ?_⟩
      have ha2 := List.mem_filter.1 ((psort_perm _).mem_iff.1 ha)
      have hb2 := List.mem_filter.1 ((psort_perm _).mem_iff.1 hb)
      have := h a ha2.1 b hb2.1 ha2.2 (by simpa using hb2.2)
      rw [nb_iff]
      omega
    · refine ((psort_perm _).append (psort_perm _)).trans ?_
      exact List.filter_append_perm p T
  rw [e1]
  cases hc : psort (T.filter p) with
  | nil =>
    have : x ∈ psort (T.filter p) := (psort_perm _).mem_iff.2 (List.mem_filter.2 ⟨hx, hpx⟩)
    rw [hc] at this
    exact absurd this List.not_mem_nil
  | cons a l => rfl
end Go.Proofs.YtedolmjealgeoaaDoor.Tk

set_option linter.unusedVariables false
namespace Go.Proofs.YtedolmjealgeoaaDoor.Wh
open Go.RowKit Go.Maps Go.Proofs.YtedolmjealgeoaaDoor.PBase Go.Proofs.YtedolmjealgeoaaDoor.Cat Go.Proofs.YtedolmjealgeoaaDoor.Rg Go.Proofs.YtedolmjealgeoaaDoor.Tk Go.Proofs.YtedolmjealgeoaaDoorW.PrintWords Go.Proofs.YtedolmjealgeoaaDoorW.PrintLast Go.Proofs.YtedolmjealgeoaaDoorW.PrintMore
/-- A wheel's cells. -/
def wcells (now : Int) (ps : Nat → Value) (fm am : Nat) : Array Value := #[.int .u64 now, ps 0, ps 1, ps 2, ps 3, ps 4, ps 5, .map (some fm), .map (some am)]
abbrev ptr (R : Nat) : Value := .pointer (some ⟨R, 0, none⟩)
theorem wc_ring (now : Int) (ps : Nat → Value) (fm am : Nat) {i : Nat} (hi : i < 6) : (wcells now ps fm am)[i + 1]? = some (ps i) := by
  match i, hi with
  | 0, _ => rfl
  | 1, _ => rfl
  | 2, _ => rfl
  | 3, _ => rfl
  | 4, _ => rfl
  | 5, _ => rfl
theorem wc_setRing (now : Int) (ps : Nat → Value) (fm am : Nat) {i : Nat} (hi : i < 6) (v : Value) : (wcells now ps fm am).setIfInBounds (i + 1) v = wcells now (vput ps i v) fm am := by
  match i, hi with
  | 0, _ => rfl
  | 1, _ => rfl
  | 2, _ => rfl
  | 3, _ => rfl
  | 4, _ => rfl
  | 5, _ => rfl
/-- A wheel's parts. -/
structure RX (N : Nat) (F : Nat → Prop) (W : World) (B : Nat) (now : Int) (fm am : Nat) (rs : Nat → Nat) (Fs : Nat → Nat → Prop) (Ts : Nat → List S114) (f : Int → Option Int) (c : Nat) (g : Int → Option Int) (e : Nat) : Prop where
  blk : W.heap[B]? = some (.cells (wcells now (fun i => ptr (rs i)) fm am) 125 (0, 0))
  far : MI .u64 29 W fm f c
  at_ : MI .u64 29 W am g e
  ring : ∀ i, i < 6 → RI N (Fs i) W (rs i) (Ts i)
  sub : ∀ i k, i < 6 → Fs i k → F k ∧ k ≠ B ∧ k ≠ fm ∧ k ≠ am
  dis : ∀ i j k, i < 6 → j < 6 → Fs i k → Fs j k → i = j
  fB : F B
  ffm : F fm
  fam : F am
  n1 : B ≠ fm
  n2 : B ≠ am
  n3 : fm ≠ am
  lt : ∀ k, F k → N ≤ k ∧ k < W.heap.size
section
variable {N : Nat} {F : Nat → Prop} {W W' : World} {B : Nat} {now : Int} {fm am : Nat} {rs : Nat → Nat} {Fs : Nat → Nat → Prop} {Ts : Nat → List S114} {f : Int → Option Int} {c : Nat} {g : Int → Option Int} {e : Nat}
theorem RX.keep {G : Nat → Prop} (h : RX N F W B now fm am rs Fs Ts f c g e) (hf : Fr G W W') (hG : ∀ k, F k → ¬ G k) : RX N F W' B now fm am rs Fs Ts f c g e :=
  ⟨(hf.blk B (h.lt B h.fB).2 (hG B h.fB)).trans h.blk, h.far.fr hf (hG fm h.ffm), h.at_.fr hf (hG am h.fam), fun i hi => (h.ring i hi).keep hf (fun k hk => hG k (h.sub i k hi hk).1), h.sub, h.dis, h.fB, h.ffm, h.fam, h.n1, h.n2, h.n3, fun k hk => ⟨(h.lt k hk).1, Nat.lt_of_lt_of_le (h.lt k hk).2 hf.size⟩⟩
theorem RX.step (h : RX N F W B now fm am rs Fs Ts f c g e) (hb : Below W.heap.size W W') : RX N F W' B now fm am rs Fs Ts f c g e := h.keep (Fr.of_below (F := fun _ => False) hb) (fun _ _ h => h)
theorem RX.setNow (h : RX N F W B now fm am rs Fs Ts f c g e) (t : Int) : RX N F (W.setCell ⟨B, 0, none⟩ (.int .u64 t)) B t fm am rs Fs Ts f c g e := by
  have hf := Fr.set W B 0 (.int .u64 t)
  exact ⟨blk_set h.blk 0 _, h.far.fr hf (fun e => h.n1 e.symm), h.at_.fr hf (fun e => h.n2 e.symm), fun i hi => (h.ring i hi).keep hf (fun k hk => (h.sub i k hi hk).2.1), h.sub, h.dis, h.fB, h.ffm, h.fam, h.n1, h.n2, h.n3, fun k hk => ⟨(h.lt k hk).1, Nat.lt_of_lt_of_le (h.lt k hk).2 hf.size⟩⟩
theorem RX.setFar {f' : Int → Option Int} {c' : Nat} (h : RX N F W B now fm am rs Fs Ts f c g e) (hm : MI .u64 29 W' fm f' c') (hf : Fr (fun k => k = fm) W W') : RX N F W' B now fm am rs Fs Ts f' c' g e :=
  ⟨(hf.blk B (h.lt B h.fB).2 h.n1).trans h.blk, hm, h.at_.fr hf (fun e => h.n3 e.symm), fun i hi => (h.ring i hi).keep hf (fun k hk => (h.sub i k hi hk).2.2.1), h.sub, h.dis, h.fB, h.ffm, h.fam, h.n1, h.n2, h.n3, fun k hk => ⟨(h.lt k hk).1, Nat.lt_of_lt_of_le (h.lt k hk).2 hf.size⟩⟩
theorem RX.setAt {g' : Int → Option Int} {e' : Nat} (h : RX N F W B now fm am rs Fs Ts f c g e) (hm : MI .u64 29 W' am g' e') (hf : Fr (fun k => k = am) W W') : RX N F W' B now fm am rs Fs Ts f c g' e' :=
  ⟨(hf.blk B (h.lt B h.fB).2 h.n2).trans h.blk, h.far.fr hf h.n3, hm, fun i hi => (h.ring i hi).keep hf (fun k hk => (h.sub i k hi hk).2.2.2), h.sub, h.dis, h.fB, h.ffm, h.fam, h.n1, h.n2, h.n3, fun k hk => ⟨(h.lt k hk).1, Nat.lt_of_lt_of_le (h.lt k hk).2 hf.size⟩⟩
def fput {α : Type} (Fs : Nat → α) (i : Nat) (F' : α) : Nat → α := fun j => if j = i then F' else Fs j
theorem fput_same {α : Type} (Fs : Nat → α) (i : Nat) (F' : α) : fput Fs i F' i = F' := if_pos rfl
theorem fput_other {α : Type} {Fs : Nat → α} {i j : Nat} {F' : α} (h : j ≠ i) : fput Fs i F' j = Fs j := if_neg h
theorem RX.setRing {F' : Nat → Prop} {T' : List S114} {i : Nat} (h : RX N F W B now fm am rs Fs Ts f c g e) (hi : i < 6) (hr : RI N F' W' (rs i) T') (hF : ∀ k, F' k → Fs i k ∨ W.heap.size ≤ k) (hf : Fr (Fs i) W W') : RX N (fun k => F k ∨ F' k) W' B now fm am rs (fput Fs i F') (fput Ts i T') f c g e := by
  have hB : ∀ k, F k → ¬ W.heap.size ≤ k := fun k hk => by have := (h.lt k hk).2; omega
  refine ⟨(hf.blk B (h.lt B h.fB).2 (fun e => (h.sub i B hi e).2.1 rfl)).trans h.blk, h.far.fr hf (fun e => (h.sub i fm hi e).2.2.1 rfl), h.at_.fr hf (fun e => (h.sub i am hi e).2.2.2 rfl), fun j hj => ?_, fun j k hj hk => ?_, fun j l k hj hl hk hk2 => ?_, .inl h.fB, .inl h.ffm, .inl h.fam, h.n1, h.n2, h.n3, fun k hk => ?_⟩
  · by_cases e1 : j = i
    · subst e1
      rw [fput_same, fput_same]
      exact hr
    · rw [fput_other e1, fput_other e1]
      exact (h.ring j hj).keep hf (fun k hk hk2 => e1 (h.dis j i k hj hi hk hk2))
  · by_cases e1 : j = i
    · subst e1
      rw [fput_same] at hk
      refine ⟨.inr hk, ?_⟩
      rcases hF k hk with h2 | h2
      · exact (h.sub j k hj h2).2
      · have h3 := (h.lt B h.fB).2
        have h4 := (h.lt fm h.ffm).2
        have h5 := (h.lt am h.fam).2
        omega
    · rw [fput_other e1] at hk
      exact ⟨.inl (h.sub j k hj hk).1, (h.sub j k hj hk).2⟩
  · by_cases e1 : j = i
    · by_cases e2 : l = i
      · rw [e1, e2]
      · rw [fput_other e2] at hk2
        rw [e1, fput_same] at hk
        rcases hF k hk with h2 | h2
        · exact (e2 (h.dis l i k hl hi hk2 h2)).elim
        · exact (hB k (h.sub l k hl hk2).1 h2).elim
    · by_cases e2 : l = i
      · rw [fput_other e1] at hk
        rw [e2, fput_same] at hk2
        rcases hF k hk2 with h2 | h2
        · exact (e1 (h.dis j i k hj hi hk h2)).elim
        · exact (hB k (h.sub j k hj hk).1 h2).elim
      · rw [fput_other e1] at hk
        rw [fput_other e2] at hk2
        exact h.dis j l k hj hl hk hk2
  · rcases hk with hk | hk
    · exact ⟨(h.lt k hk).1, Nat.lt_of_lt_of_le (h.lt k hk).2 hf.size⟩
    · exact hr.lt k hk
/-- A new map for what is beyond. -/
theorem RX.newFar (h : RX N F W B now fm am rs Fs Ts f c g e) : RX N (fun k => (F k ∧ k ≠ fm) ∨ k = W.heap.size) ((W.alloc (.map #[] 0)).setCell ⟨B, 7, none⟩ (.map (some W.heap.size))) B now W.heap.size am rs Fs Ts (fun _ => none) 0 g e := by
  have hb : Below W.heap.size W (W.alloc (.map #[] 0)) := below_alloc (Below.refl _ _) _
  have h1 := h.step hb
  have hf := Fr.set (W.alloc (.map #[] 0)) B 7 (.map (some W.heap.size))
  have hsz : (W.alloc (.map #[] 0)).heap.size = W.heap.size + 1 := by simp
  have l1 := (h.lt B h.fB).2
  have l3 := (h.lt am h.fam).2
  refine ⟨blk_set h1.blk 7 _, (MI.made .u64 29 W).fr hf (by show ¬ W.heap.size = B; omega), h1.at_.fr hf (fun e => h.n2 e.symm), fun i hi => (h1.ring i hi).keep hf (fun k hk => (h.sub i k hi hk).2.1), fun i k hi hk => ?_, h.dis, .inl ⟨h.fB, h.n1⟩, .inr rfl, .inl ⟨h.fam, fun e => h.n3 e.symm⟩, by omega, h.n2, by omega, fun k hk => ?_⟩
  · have h2 := h.sub i k hi hk
    have := (h.lt k h2.1).2
    exact ⟨.inl ⟨h2.1, h2.2.2.1⟩, h2.2.1, by omega, h2.2.2.2⟩
  · have h2 : N ≤ W.heap.size := Nat.le_trans (h.lt B h.fB).1 (Nat.le_of_lt l1)
    rcases hk with hk | rfl
    · exact ⟨(h.lt k hk.1).1, Nat.lt_of_lt_of_le (h.lt k hk.1).2 (by have := hf.size; omega)⟩
    · exact ⟨h2, by have := hf.size; omega⟩
theorem RX.congr {Ts' : Nat → List S114} {f' g' : Int → Option Int} {c' e' : Nat} (h : RX N F W B now fm am rs Fs Ts f c g e) (hT : ∀ i, i < 6 → (Ts i).Perm (Ts' i)) (hf : ∀ x, f x = f' x) (hc : c = c') (hg : ∀ x, g x = g' x) (he : e = e') : RX N F W B now fm am rs Fs Ts' f' c' g' e' := by
  subst hc he
  exact ⟨h.blk, h.far.congr hf, h.at_.congr hg, fun i hi => (h.ring i hi).perm (hT i hi), h.sub, h.dis, h.fB, h.ffm, h.fam, h.n1, h.n2, h.n3, h.lt⟩
end
/-- A wheel in memory that stands at now: the rings and what is beyond hold T, each where it belongs; all timers are V; F: its blocks. -/
def WI (N : Nat) (F : Nat → Prop) (W : World) (B : Nat) (now : Int) (T V : List S31) : Prop :=
  ∃ fm am rs Fs, RX N F W B now fm am rs Fs (rgT now T) (tof (farT now T)) (farT now T).length (tof V) V.length
/-- Where a call leaves it. -/
def WGo (N : Nat) (F : Nat → Prop) (W W' : World) (B : Nat) (now : Int) (T V : List S31) : Prop :=
  ∃ F', WI N F' W' B now T V ∧ (∀ k, F' k → F k ∨ W.heap.size ≤ k) ∧ Fr F W W'
section
variable {N : Nat} {F : Nat → Prop} {W W' W2 : World} {B : Nat} {now t2 : Int} {T V T2 V2 : List S31}
theorem WI.lt (h : WI N F W B now T V) : ∀ k, F k → N ≤ k ∧ k < W.heap.size := by
  obtain ⟨fm, am, rs, Fs, h⟩ := h
  exact h.lt
theorem WI.fB (h : WI N F W B now T V) : F B := by
  obtain ⟨fm, am, rs, Fs, h⟩ := h
  exact h.fB
theorem WI.keep {G : Nat → Prop} (h : WI N F W B now T V) (hf : Fr G W W') (hG : ∀ k, F k → ¬ G k) : WI N F W' B now T V := by
  obtain ⟨fm, am, rs, Fs, h⟩ := h
  exact ⟨fm, am, rs, Fs, h.keep hf hG⟩
theorem WI.step (h : WI N F W B now T V) (hb : Below W.heap.size W W') : WI N F W' B now T V := h.keep (Fr.of_below (F := fun _ => False) hb) (fun _ _ h => h)
theorem WI.go (h : WI N F W B now T V) (hb : Below W.heap.size W W') : WGo N F W W' B now T V := ⟨F, h.step hb, fun k hk => .inl hk, Fr.of_below hb⟩
theorem WI.perm (h : WI N F W B now T V) (hT : T.Perm T2) (hV : V.Perm V2) (n1 : (ids T).Nodup) (n2 : (ids V).Nodup) : WI N F W B now T2 V2 := by
  obtain ⟨fm, am, rs, Fs, h⟩ := h
  exact ⟨fm, am, rs, Fs, h.congr (fun i _ => rg_perm hT i) (tof_perm (far_perm hT) (n1.sublist (List.filter_sublist.map _))) (far_perm hT).length_eq (tof_perm hV n2) hV.length_eq⟩
theorem WGo.perm (h : WGo N F W W' B now T V) (hT : T.Perm T2) (hV : V.Perm V2) (n1 : (ids T).Nodup) (n2 : (ids V).Nodup) : WGo N F W W' B now T2 V2 := by
  obtain ⟨F', h1, h2, h3⟩ := h
  exact ⟨F', h1.perm hT hV n1 n2, h2, h3⟩
theorem WGo.then_ (h : WGo N F W W' B now T V) (k : ∀ F1, WI N F1 W' B now T V → WGo N F1 W' W2 B t2 T2 V2) : WGo N F W W2 B t2 T2 V2 := by
  obtain ⟨F', h1, h2, h3⟩ := h
  obtain ⟨F2, k1, k2, k3⟩ := k F' h1
  refine ⟨F2, k1, fun j hj => ?_, Fr.then_ h3 k3 h2⟩
  rcases k2 j hj with h4 | h4
  · exact h2 j h4
  · exact .inr (Nat.le_trans h3.size h4)
theorem WGo.after (hb : Below W.heap.size W W') (h : WI N F W B now T V) (k : WI N F W' B now T V → WGo N F W' W2 B t2 T2 V2) : WGo N F W W2 B t2 T2 V2 := by
  obtain ⟨F2, k1, k2, k3⟩ := k (h.step hb)
  refine ⟨F2, k1, fun j hj => ?_, (Fr.of_below hb).trans k3⟩
  rcases k2 j hj with h4 | h4
  · exact .inl h4
  · exact .inr (Nat.le_trans hb.size h4)
theorem WGo.below (h : WGo N F W W' B now T V) (hb : Below W'.heap.size W' W2) : WGo N F W W2 B now T V := h.then_ (fun F1 h1 => h1.go hb)
end
end Go.Proofs.YtedolmjealgeoaaDoor.Wh

set_option linter.unusedVariables false
namespace Go.Proofs.YtedolmjealgeoaaDoor.Wh
open Go.RowKit Go.Maps Go.Proofs.YtedolmjealgeoaaDoor.PBase Go.Proofs.YtedolmjealgeoaaDoor.Cat Go.Proofs.YtedolmjealgeoaaDoor.Rg Go.Proofs.YtedolmjealgeoaaDoor.Tk Go.Proofs.YtedolmjealgeoaaDoorW.PrintWords Go.Proofs.YtedolmjealgeoaaDoorW.PrintLast Go.Proofs.YtedolmjealgeoaaDoorW.PrintMore
/-- The table's cells are there, and lie below N. -/
structure TB (N : Nat) (W : World) : Prop where
  tab : Tz.TabOk W
  pos : 0 < N
theorem TB.fr {N : Nat} {W W' : World} {F : Nat → Prop} (h : TB N W) (hf : Fr F W W') (hF : ∀ k, F k → N ≤ k) : TB N W' :=
  ⟨fun j hj => hf.cell (h.tab j hj) (fun e => by have h1 : N ≤ 0 := hF 0 e; have := h.pos; omega), h.pos⟩
theorem TB.step {N : Nat} {W W' : World} (h : TB N W) (hb : Below W.heap.size W W') : TB N W' := ⟨h.tab.below hb, h.pos⟩
theorem TB.go {N : Nat} {F : Nat → Prop} {W W' : World} {B : Nat} {now t2 : Int} {T V T2 V2 : List S31} (h : TB N W) (hw : WI N F W B now T V) (hg : WGo N F W W' B t2 T2 V2) : TB N W' := by
  obtain ⟨F', _, _, h3⟩ := hg
  exact h.fr h3 (fun k hk => (hw.lt k hk).1)
section
variable {N : Nat} {F : Nat → Prop} {W W' : World} {B : Nat} {now t2 : Int} {T V : List S31}
set_option maxHeartbeats 4000000 in
set_option maxRecDepth 100000 in
theorem now_calls (h : WI N F W B now T V) : Calls Tryd.prog 34 #[ptr B] W fun e w' => e = .returned (.int .u64 now) ∧ Below W.heap.size W w' := by
  obtain ⟨fm, am, rs, Fs, h⟩ := h
  have c0 : W.cell? ⟨B, 0, none⟩ = some (.int .u64 now) := (blk_cell h.blk 0).trans rfl
  clear h
  go_enter Tryd.func34, Tryd.ntmps34
  go_wp2
  go_ret
  exact ⟨rfl, Below.refl _ _⟩
theorem now_nil (W : World) : Calls Tryd.prog 34 #[.pointer none] W fun e w' => e = .returned (.int .u64 0) ∧ Below W.heap.size W w' := by
  go_enter Tryd.func34, Tryd.ntmps34
  go_wp2
  go_ret
  exact ⟨rfl, Below.refl _ _⟩
set_option maxHeartbeats 4000000 in
set_option maxRecDepth 100000 in
theorem len_calls (h : WI N F W B now T V) : Calls Tryd.prog 37 #[ptr B] W fun e w' => e = .returned (.int .i64 V.length) ∧ Below W.heap.size W w' := by
  obtain ⟨fm, am, rs, Fs, h⟩ := h
  have c0 : W.cell? ⟨B, 8, none⟩ = some (.map (some am)) := (blk_cell h.blk 8).trans rfl
  have hlen := fun ty => h.at_.len ek29 ty
  clear h
  go_enter Tryd.func37, Tryd.ntmps37
  go_wp2
  go_ret
  exact ⟨rfl, Below.refl _ _⟩
theorem len_nil (W : World) : Calls Tryd.prog 37 #[.pointer none] W fun e w' => e = .returned (.int .i64 0) ∧ Below W.heap.size W w' := by
  go_enter Tryd.func37, Tryd.ntmps37
  go_wp2
  go_ret
  exact ⟨rfl, Below.refl _ _⟩
set_option maxHeartbeats 4000000 in
set_option maxRecDepth 100000 in
theorem at_calls (h : WI N F W B now T V) (id : Int) (hw : (Lit.int .i64 id).wf = true) : Calls Tryd.prog 48 #[ptr B, .int .i64 id] W fun e w' => e = .returned (.tuple #[.int .u64 ((tof V id).getD 0), .bool (tof V id).isSome]) ∧ Below W.heap.size W w' := by
  obtain ⟨fm, am, rs, Fs, h⟩ := h
  have c0 : W.cell? ⟨B, 8, none⟩ = some (.map (some am)) := (blk_cell h.blk 8).trans rfl
  have hlook := h.at_.look ek29 hw 0
  replace hlook : _ = Result.ok _ W := hlook
  replace hlook : (Instr.lookup 123 (.map (some am)) (.int .i64 id) true).run Tryd.prog W = _ := hlook
  clear h
  go_enter Tryd.func48, Tryd.ntmps48
  go_wp2
  go_ret2
  exact ⟨rfl, by repeat (first | exact Below.refl _ _ | apply pw_below_drewN | apply below_drew1)⟩
theorem at_nil (W : World) (id : Int) : Calls Tryd.prog 48 #[.pointer none, .int .i64 id] W fun e w' => e = .returned (.tuple #[.int .u64 0, .bool false]) ∧ Below W.heap.size W w' := by
  go_enter Tryd.func48, Tryd.ntmps48
  go_wp2
  go_ret2
  exact ⟨rfl, Below.refl _ _⟩
theorem run_index93 (a : Int) {k : Nat} (hk : k < 11) (w : World) : (Instr.index 93 (.agg #[.int .i64 (dg a 0), .int .i64 (dg a 1), .int .i64 (dg a 2), .int .i64 (dg a 3), .int .i64 (dg a 4), .int .i64 (dg a 5), .int .i64 (dg a 6), .int .i64 (dg a 7), .int .i64 (dg a 8), .int .i64 (dg a 9), .int .i64 (dg a 10)]) (.int .i64 (k : Int))).run Tryd.prog w = .ok (.int .i64 (dg a k)) w := by
  have h : k = 0 ∨ k = 1 ∨ k = 2 ∨ k = 3 ∨ k = 4 ∨ k = 5 ∨ k = 6 ∨ k = 7 ∨ k = 8 ∨ k = 9 ∨ k = 10 := by omega
  rcases h with rfl | rfl | rfl | rfl | rfl | rfl | rfl | rfl | rfl | rfl | rfl <;> simp [Instr.index, run_underlying Tryd.underlying93, asIntOf, go_sem]
set_option maxHeartbeats 8000000 in
set_option maxRecDepth 100000 in
theorem where_calls (c0 : W.cell? ⟨B, 0, none⟩ = some (.int .u64 now)) (hT : Tz.TabOk W) {a : Int} (ha : U a) (hn : U now) : Calls Tryd.prog 71 #[ptr B, .int .u64 a] W fun e w' => e = .returned (.tuple #[.int .i64 (lv a now), .int .i64 (dg a (lv a now))]) ∧ Below W.heap.size W w' := by
  obtain ⟨k, hk, hi⟩ := top ha hn
  have hl := lv_top ha hn hi
  have hlt := (lv_spec ha hn).2.2
  have HD : Aside0 (tick_Digits.f 12 a = some (dg a 0, dg a 1, dg a 2, dg a 3, dg a 4, dg a 5, dg a 6, dg a 7, dg a 8, dg a 9, dg a 10)) := ⟨digits ha 0⟩
  have HT := Aside0.mk hT
  obtain ⟨L, hL⟩ : ∃ L, lv a now = L := ⟨_, rfl⟩
  rw [hL] at hl hlt ⊢
  have HK := Aside0.mk hk
  have hix := run_index93 a (k := L) (by omega)
  have hb : (k = -1 ∧ L = 0) ∨ k = (L : Int) := by
    split at hl <;> rcases hi with ⟨h, _⟩ | ⟨h0, h1, _⟩ <;> omega
  have hL0 : (0 : Int) ≤ (L : Int) := by omega
  clear hl hi hk hT hL ha hn hlt
  have hmx : ∀ W : World, (Builtin.max_ #[3, 3] 3 #[.int .i64 k, .int .i64 0]).run Tryd.prog W = .ok (.int .i64 (L : Int)) W := fun W => by
    rcases hb with ⟨rfl, rfl⟩ | rfl
    · kernel_rfl
    · simp [Builtin.max_, Builtin.max2]
      omega
  clear hb
  go_enter Tryd.func71, Tryd.ntmps71
  go_upto_region 2 with (go_at_call 51; refine (tick_Top.calls a now k _ HK.out HT.out).mono ?_; rintro e w1 ⟨rfl, hb1⟩)
  go_region_held3 (fun _ => True) (trivial) (first | (go_at_call 52; refine (tick_Digits.calls 12 a _ _ _ _ _ _ _ _ _ _ _ _ HD.out).mono ?_; rintro e w2 ⟨rfl, hb2⟩))
  go_wp2
  go_ret2
  exact ⟨rfl, below_step (below_drew1 hb1) hb2⟩
end
end Go.Proofs.YtedolmjealgeoaaDoor.Wh

set_option linter.unusedVariables false
namespace Go.Proofs.YtedolmjealgeoaaDoor.Wh
open Go.RowKit Go.Maps Go.Proofs.YtedolmjealgeoaaDoor.PBase Go.Proofs.YtedolmjealgeoaaDoor.Cat Go.Proofs.YtedolmjealgeoaaDoor.Rg Go.Proofs.YtedolmjealgeoaaDoor.Tk Go.Proofs.YtedolmjealgeoaaDoorW.PrintWords Go.Proofs.YtedolmjealgeoaaDoorW.PrintLast Go.Proofs.YtedolmjealgeoaaDoorW.PrintMore
theorem U_wf {a : Int} (h : U a) : (Lit.int .u64 a).wf = true := Go.WalkArith.wf_u64 ⟨h.1, by have := h.2; omega⟩
section
variable {N : Nat} {F : Nat → Prop} {W W' : World} {B : Nat} {now t2 : Int} {T V : List S31}
/-- What a put to a ring leaves. -/
theorem put_low {fm am : Nat} {rs : Nat → Nat} {Fs : Nat → Nat → Prop} {f c g e L} {d : S31} (h : RX N F W B now fm am rs Fs (rgT now T) f c g e) (hf : ∀ x, f x = tof (farT now T) x) (hc : c = (farT now T).length) (hg : ∀ x, g x = tof V x) (he : e = V.length) (hl : lv d.f1 now = L) (hL : L < 6) (hgo : RGo N (Fs L) W W' (rs L) (⟨dg d.f1 L, d⟩ :: rgT now T L)) : WGo N F W W' B now (d :: T) V := by
  obtain ⟨F', k1, k2, k3⟩ := hgo
  refine ⟨_, ⟨fm, am, rs, _, (h.setRing hL k1 k2 k3).congr (fun i hi => ?_) (fun x => ?_) ?_ hg he⟩, fun k hk => ?_, k3.weak (fun k hk => (h.sub L k hL hk).1)⟩
  · rw [rg_cons]
    by_cases e1 : i = L
    · subst e1
      rw [fput_same, if_pos hl]
    · rw [fput_other e1, if_neg (fun e => e1 (e.symm.trans hl))]
  · rw [hf, far_cons, if_neg (by omega)]
  · rw [hc, far_cons, if_neg (by omega)]
  · rcases hk with hk | hk
    · exact .inl hk
    · rcases k2 k hk with h2 | h2
      · exact .inl (h.sub L k hL h2).1
      · exact .inr h2
/-- What a put beyond the rings leaves. -/
theorem put_far {fm am : Nat} {rs : Nat → Nat} {Fs : Nat → Nat → Prop} {f c g e} {d : S31} (h : RX N F W B now fm am rs Fs (rgT now T) f c g e) (hf : ∀ x, f x = tof (farT now T) x) (hc : c = (farT now T).length) (hg : ∀ x, g x = tof V x) (he : e = V.length) (hl : 6 ≤ lv d.f1 now) (hd : d.f0 ∉ ids T) (hm : MI .u64 29 W' fm (upd f d.f0 (some d.f1)) (if (f d.f0).isSome = true then c else c + 1)) (ht : Fr (fun k => k = fm) W W') : WGo N F W W' B now (d :: T) V := by
  have e0 : f d.f0 = none := by rw [hf, tof_none]; exact fun e => hd (far_ids e)
  rw [e0] at hm
  refine ⟨F, ⟨fm, am, rs, Fs, (h.setFar hm ht).congr (fun i hi => ?_) (fun x => ?_) ?_ hg he⟩, fun k hk => .inl hk, ht.weak (fun k hk => hk ▸ h.ffm)⟩
  · rw [rg_cons, if_neg (by omega)]
  · rw [far_cons, if_pos hl, tof_put]
    unfold upd
    rw [hf]
  · rw [far_cons, if_pos hl, if_neg (by simp), List.length_cons, hc]
set_option maxHeartbeats 8000000 in
set_option maxRecDepth 100000 in
theorem put_W (h : WI N F W B now T V) (hT : TB N W) (hn : U now) (d : S31) (hd : d.f0 ∉ ids T) (hw : (Lit.int .i64 d.f0).wf = true) (hu : U d.f1) (hlen : T.length ≤ 90000) : Calls Tryd.prog 73 #[ptr B, .agg #[.int .i64 d.f0, .int .u64 d.f1]] W fun e w' => e = .returned (.tuple #[]) ∧ Aside0 (WGo N F W w' B now (d :: T) V) := by
  have hbx : Below W.heap.size W (W.alloc (.cells #[.int .i64 d.f0, .int .u64 d.f1] 31)) := below_alloc (Below.refl _ _) _
  have hx := blk_new W (.cells #[.int .i64 d.f0, .int .u64 d.f1] 31)
  have h0 := Aside0.mk h
  obtain ⟨fm, am, rs, Fs, h⟩ := h
  obtain ⟨L, hL⟩ : ∃ L, lv d.f1 now = L := ⟨_, rfl⟩
  have hx0 := Aside0.mk h
  have HT := Aside0.mk hT
  have hX := Aside0.mk (h.step hbx)
  have c0 : (W.alloc (.cells #[.int .i64 d.f0, .int .u64 d.f1] 31)).cell? ⟨B, 0, none⟩ = some (.int .u64 now) := (blk_cell hX.out.blk 0).trans rfl
  have hwh := where_calls c0 (HT.out.step hbx).tab hu hn
  rw [hL] at hwh
  have HW := Aside0.mk hwh
  have HD := Aside0.mk hd
  have HU := Aside0.mk hu
  have HL := Aside0.mk hL
  have HN := Aside0.mk hlen
  clear hT h hd hu hL hlen hn c0 hwh
  go_enter Tryd.func73, Tryd.ntmps73
  go_upto_region 2 with (go_at_call 71; refine HW.out.mono ?_; rintro e w1 ⟨rfl, hb1⟩)
  have hX1 := Aside0.mk (hX.out.step hb1)
  have hx1 := blk_below hx hb1
  have hbb := Aside0.mk (below_step hbx hb1)
  have hsz : Aside0 (W.heap.size < w1.heap.size) := ⟨blk_lt hx1⟩
  clear hb1 HW hX hx hbx
  by_cases hl : L < 6
  · have hl1 : (L : Int) < 6 := by omega
    have hl0 : (0 : Int) ≤ (L : Int) := by omega
    go_upto_region 3 with (fail)
    have kp : Aside0 (∀ w', Fr (Fs L) w1 w' → w'.cell? ⟨B, 1 + L, none⟩ = some (ptr (rs L)) ∧ w'.cell? ⟨W.heap.size, 0, none⟩ = some (.int .i64 d.f0) ∧ w'.cell? ⟨W.heap.size, 1, none⟩ = some (.int .u64 d.f1)) := ⟨fun w' hf =>
      ⟨hf.cell ((blk_cell hX1.out.blk (1 + L)).trans (by rw [Nat.add_comm]; exact wc_ring _ _ _ _ hl)) (fun e => (hX1.out.sub L B hl e).2.1 rfl), hf.cell ((blk_cell hx1 0).trans rfl) (fun e => Nat.lt_irrefl _ (hx0.out.lt W.heap.size (hx0.out.sub L _ hl e).1).2), hf.cell ((blk_cell hx1 1).trans rfl) (fun e => Nat.lt_irrefl _ (hx0.out.lt W.heap.size (hx0.out.sub L _ hl e).1).2)⟩⟩
    have HR := Aside0.mk ((hX1.out.ring L hl).step (below_drew1 (Below.refl _ _)))
    clear hx1
    go_region_held3 (fun w' => w'.cell? ⟨B, 1 + L, none⟩ = some (ptr (rs L)) ∧ w'.cell? ⟨W.heap.size, 0, none⟩ = some (.int .i64 d.f0) ∧ w'.cell? ⟨W.heap.size, 1, none⟩ = some (.int .u64 d.f1)) (first | exact kp.out _ (Fr.drew _) | exact kp.out _ (by obtain ⟨_, _, _, k3⟩ := hg.out; exact (Fr.drew _).trans k3)) (first | (go_at_call 15; refine (put_ring HR.out (dg d.f1 L) d hw (by have := rg_len now T L; have := HN.out; omega)).mono ?_; rintro e w3 ⟨rfl, hg⟩))
    go_wp2
    go_end0
    refine ⟨rfl, ⟨WGo.after (below_drew1 hbb.out) h0.out (fun _ => put_low (hX1.out.step (below_drew1 (Below.refl _ _))) (fun _ => rfl) rfl (fun _ => rfl) rfl HL.out hl ?_)⟩⟩
    have e1 : putB (rgT now T L) (dg d.f1 L) d = true := by
      unfold putB
      rw [decide_eq_true ⟨dg_range _ _, fun e => HD.out (rg_tid e)⟩]
    have h2 := hg.out
    rw [e1] at h2
    exact h2
  · have hl1 : ¬ (L : Int) < 6 := by omega
    have hl2 : (6 : Int) ≤ (L : Int) := by omega
    have kp : Aside0 (∀ w', Fr (fun k => k = fm) w1 w' → w'.cell? ⟨B, 7, none⟩ = some (.map (some fm)) ∧ w'.cell? ⟨W.heap.size, 0, none⟩ = some (.int .i64 d.f0) ∧ w'.cell? ⟨W.heap.size, 1, none⟩ = some (.int .u64 d.f1)) := ⟨fun w' hf =>
      ⟨hf.cell ((blk_cell hX1.out.blk 7).trans rfl) (fun e => hX1.out.n1 e), hf.cell ((blk_cell hx1 0).trans rfl) (fun e => by have e2 : W.heap.size = fm := e; have := (hx0.out.lt _ hx0.out.ffm).2; omega), hf.cell ((blk_cell hx1 1).trans rfl) (fun e => by have e2 : W.heap.size = fm := e; have := (hx0.out.lt _ hx0.out.ffm).2; omega)⟩⟩
    have hfl : (farT now T).length < maxLen := by
      have := far_len now T
      have := HN.out
      unfold maxLen
      omega
    obtain ⟨w4, hrun4, hM4, ht4⟩ := (hX1.out.far.fr (F := fun _ => False) (Fr.drew w1) (fun h => h)).store ek29 hfl hw (U_wf HU.out)
    have hM4 := Aside0.mk hM4
    have ht4 := Aside0.mk ht4
    clear hx1 hfl
    go_upto_region 4 with (fail)
    go_region_held3 (fun w' => w'.cell? ⟨B, 7, none⟩ = some (.map (some fm)) ∧ w'.cell? ⟨W.heap.size, 0, none⟩ = some (.int .i64 d.f0) ∧ w'.cell? ⟨W.heap.size, 1, none⟩ = some (.int .u64 d.f1)) (first | exact kp.out _ (Fr.drew _) | exact kp.out _ ((Fr.drew _).trans (Fr.of_turned ht4.out))) (fail)
    go_wp2
    go_end0
    refine ⟨rfl, ⟨WGo.after (below_drew1 hbb.out) h0.out (fun _ => put_far (hX1.out.step (below_drew1 (Below.refl _ _))) (fun _ => rfl) rfl (fun _ => rfl) rfl (by have := HL.out; omega) HD.out hM4.out (Fr.of_turned ht4.out))⟩⟩
end
end Go.Proofs.YtedolmjealgeoaaDoor.Wh

set_option linter.unusedVariables false
namespace Go.Proofs.YtedolmjealgeoaaDoor.Wh
open Go.RowKit Go.Maps Go.Proofs.YtedolmjealgeoaaDoor.PBase Go.Proofs.YtedolmjealgeoaaDoor.Cat Go.Proofs.YtedolmjealgeoaaDoor.Rg Go.Proofs.YtedolmjealgeoaaDoor.Tk Go.Proofs.YtedolmjealgeoaaDoorW.PrintWords Go.Proofs.YtedolmjealgeoaaDoorW.PrintLast Go.Proofs.YtedolmjealgeoaaDoorW.PrintMore
theorem tof_len {T : List S31} (h : (ids T).Nodup) (id : Int) : (rm T id).length = if (tof T id).isSome = true then T.length - 1 else T.length := by
  cases hc : tof T id with
  | none =>
    rw [if_neg (by simp), rm_none (tof_none.1 hc)]
  | some y =>
    rw [if_pos (show (some y).isSome = true from rfl)]
    exact rm_len h (tof_get hc)
theorem rg_level {now : Int} {T : List S31} (h : (ids T).Nodup) {d : S31} (hd : d ∈ T) {i : Nat} (hi : i ≠ lv d.f1 now) : d.f0 ∉ tid (rgT now T i) := by
  intro e
  unfold tid rgT at e
  rw [List.map_map] at e
  obtain ⟨x, hx, e2⟩ := List.mem_map.1 e
  have hx2 := List.mem_filter.1 hx
  have e3 : x.f0 = d.f0 := e2
  have h1 := tof_mem h hx2.1
  rw [e3, tof_mem h hd] at h1
  have h3 : lv x.f1 now = i := by simpa using hx2.2
  rw [← Option.some.inj h1] at h3
  exact hi h3.symm
section
variable {N : Nat} {F : Nat → Prop} {W W' : World} {B : Nat} {now t2 : Int} {T V : List S31}
theorem insert_nil (W : World) (id a : Int) : Calls Tryd.prog 36 #[.pointer none, .int .i64 id, .int .u64 a] W fun e w' => e = .returned (.int .i64 1) ∧ Below W.heap.size W w' := by
  go_enter Tryd.func36, Tryd.ntmps36
  go_wp2
  go_ret
  exact ⟨rfl, Below.refl _ _⟩
theorem insert_twice (h : WI N F W B now T V) (id a : Int) (hw : (Lit.int .i64 id).wf = true) (hid : id ∈ ids V) : Calls Tryd.prog 36 #[ptr B, .int .i64 id, .int .u64 a] W fun e w' => e = .returned (.int .i64 8) ∧ Below W.heap.size W w' := by
  obtain ⟨fm, am, rs, Fs, h⟩ := h
  have c0 : W.cell? ⟨B, 8, none⟩ = some (.map (some am)) := (blk_cell h.blk 8).trans rfl
  have hlook : (Instr.lookup 123 (.map (some am)) (.int .i64 id) true).run Tryd.prog W = _ := h.at_.look ek29 hw 0
  replace hlook : _ = Result.ok _ W := hlook
  have e1 : (tof V id).isSome = true := by
    cases hc : tof V id with
    | none => exact absurd hid (tof_none.1 hc)
    | some y => rfl
  rw [e1] at hlook
  clear h hid e1
  go_enter Tryd.func36, Tryd.ntmps36
  go_wp2
  go_ret
  exact ⟨rfl, Below.refl _ _⟩
theorem insert_past (h : WI N F W B now T V) (id a : Int) (hw : (Lit.int .i64 id).wf = true) (hid : id ∉ ids V) (ha : a ≤ now) : Calls Tryd.prog 36 #[ptr B, .int .i64 id, .int .u64 a] W fun e w' => e = .returned (.int .i64 9) ∧ Below W.heap.size W w' := by
  obtain ⟨fm, am, rs, Fs, h⟩ := h
  have c0 : W.cell? ⟨B, 8, none⟩ = some (.map (some am)) := (blk_cell h.blk 8).trans rfl
  have c1 : W.cell? ⟨B, 0, none⟩ = some (.int .u64 now) := (blk_cell h.blk 0).trans rfl
  have hlook : (Instr.lookup 123 (.map (some am)) (.int .i64 id) true).run Tryd.prog W = _ := h.at_.look ek29 hw 0
  replace hlook : _ = Result.ok _ W := hlook
  rw [tof_none.2 hid] at hlook
  clear h hid
  go_enter Tryd.func36, Tryd.ntmps36
  go_wp2
  go_ret
  exact ⟨rfl, Below.refl _ _⟩
set_option maxHeartbeats 8000000 in
set_option maxRecDepth 100000 in
theorem insert_ok (h : WI N F W B now V V) (hT : TB N W) (hn : U now) (id a : Int) (hw : (Lit.int .i64 id).wf = true) (hid : id ∉ ids V) (hu : U a) (ha : now < a) (hlen : V.length ≤ 90000) : Calls Tryd.prog 36 #[ptr B, .int .i64 id, .int .u64 a] W fun e w' => e = .returned (.int .i64 0) ∧ Aside0 (WGo N F W w' B now (⟨id, a⟩ :: V) (⟨id, a⟩ :: V)) := by
  have h0 := Aside0.mk h
  obtain ⟨fm, am, rs, Fs, h⟩ := h
  have c0 : W.cell? ⟨B, 8, none⟩ = some (.map (some am)) := (blk_cell h.blk 8).trans rfl
  have c1 : W.cell? ⟨B, 0, none⟩ = some (.int .u64 now) := (blk_cell h.blk 0).trans rfl
  have hlook : (Instr.lookup 123 (.map (some am)) (.int .i64 id) true).run Tryd.prog W = _ := h.at_.look ek29 hw 0
  replace hlook : _ = Result.ok _ W := hlook
  rw [tof_none.2 hid] at hlook
  obtain ⟨w1, hrun1, hM1, ht1⟩ := h.at_.store ek29 (by unfold maxLen; omega) hw (U_wf hu)
  rw [tof_none.2 hid, if_neg (by simp)] at hM1
  have hX1 := h.setAt hM1 (Fr.of_turned ht1)
  have h1 : WGo N F W w1 B now V (⟨id, a⟩ :: V) := ⟨F, ⟨fm, am, rs, Fs, hX1.congr (fun i _ => List.Perm.refl _) (fun _ => rfl) rfl (fun x => (tof_put (d := ⟨id, a⟩) x).symm) rfl⟩, fun k hk => .inl hk, (Fr.of_turned ht1).weak (fun k hk => hk ▸ h.fam)⟩
  have hput : ∀ F1, WI N F1 w1 B now V (⟨id, a⟩ :: V) → Calls Tryd.prog 73 #[ptr B, .agg #[.int .i64 id, .int .u64 a]] w1 fun e w' => e = .returned (.tuple #[]) ∧ Aside0 (WGo N F1 w1 w' B now (⟨id, a⟩ :: V) (⟨id, a⟩ :: V)) := fun F1 hF1 => put_W hF1 (hT.go h0.out h1) hn ⟨id, a⟩ hid hw hu hlen
  have H1 := Aside0.mk h1
  obtain ⟨F1, hF1, hF2, hF3⟩ := h1
  have HP := Aside0.mk (hput F1 hF1)
  have HF := Aside0.mk (And.intro hF2 hF3)
  clear h hM1 ht1 hX1 hput hT hid hF1 hF2 hF3 hlen
  go_enter Tryd.func36, Tryd.ntmps36
  go_wp2_with (go_at_call 73; refine HP.out.mono ?_; rintro e w2 ⟨rfl, hg⟩)
  go_ret
  refine ⟨rfl, ⟨?_⟩⟩
  obtain ⟨F2, k1, k2, k3⟩ := hg.out
  refine ⟨F2, k1, fun k hk => ?_, Fr.then_ HF.out.2 k3 HF.out.1⟩
  rcases k2 k hk with h4 | h4
  · exact HF.out.1 k h4
  · exact .inr (Nat.le_trans HF.out.2.size h4)
/-- What Insert tells. -/
def insR (now : Int) (V : List S31) (id a : Int) : Int := if id ∈ ids V then 8 else if a ≤ now then 9 else 0
/-- The timers behind it. -/
def insT (now : Int) (V : List S31) (id a : Int) : List S31 := if id ∈ ids V then V else if a ≤ now then V else ⟨id, a⟩ :: V
theorem insert_W (h : WI N F W B now V V) (hT : TB N W) (hn : U now) (id a : Int) (hw : (Lit.int .i64 id).wf = true) (hu : U a) (hlen : V.length ≤ 90000) (r : Int) (hr : insR now V id a = r) : Calls Tryd.prog 36 #[ptr B, .int .i64 id, .int .u64 a] W fun e w' => e = .returned (.int .i64 r) ∧ Aside0 (WGo N F W w' B now (insT now V id a) (insT now V id a)) := by
  subst hr
  unfold insR insT
  by_cases h1 : id ∈ ids V
  · rw [if_pos h1, if_pos h1]
    refine (insert_twice h id a hw h1).mono ?_
    rintro e w' ⟨rfl, hb⟩
    exact ⟨rfl, ⟨h.go hb⟩⟩
  · rw [if_neg h1, if_neg h1]
    by_cases h2 : a ≤ now
    · rw [if_pos h2, if_pos h2]
      refine (insert_past h id a hw h1 h2).mono ?_
      rintro e w' ⟨rfl, hb⟩
      exact ⟨rfl, ⟨h.go hb⟩⟩
    · rw [if_neg h2, if_neg h2]
      exact insert_ok h hT hn id a hw h1 hu (by omega) hlen
/-! ### Cancel -/
theorem cancel_nil (W : World) (id : Int) : Calls Tryd.prog 31 #[.pointer none, .int .i64 id] W fun e w' => e = .returned (.tuple #[.int .u64 0, .bool false]) ∧ Below W.heap.size W w' := by
  go_enter Tryd.func31, Tryd.ntmps31
  go_wp2_with (go_at_call 48; refine (at_nil _ id).mono ?_; rintro e w1 ⟨rfl, hb1⟩)
  go_ret2
  exact ⟨rfl, hb1⟩
theorem cancel_no (h : WI N F W B now T V) (id : Int) (hw : (Lit.int .i64 id).wf = true) (hid : id ∉ ids V) : Calls Tryd.prog 31 #[ptr B, .int .i64 id] W fun e w' => e = .returned (.tuple #[.int .u64 0, .bool false]) ∧ Below W.heap.size W w' := by
  have ha := at_calls h id hw
  rw [tof_none.2 hid] at ha
  have HA := Aside0.mk ha
  clear h ha hid
  go_enter Tryd.func31, Tryd.ntmps31
  go_wp2_with (go_at_call 48; refine HA.out.mono ?_; rintro e w1 ⟨rfl, hb1⟩)
  go_ret2
  exact ⟨rfl, hb1⟩
/-- What the two deletions leave, behind the ring's. -/
theorem cancel_far {fm am : Nat} {rs : Nat → Nat} {Fs : Nat → Nat → Prop} {Ts : Nat → List S114} {f c g e} {id : Int} {W1 W2 : World} (hn : (ids V).Nodup) (h : RX N F W B now fm am rs Fs Ts f c g e) (hT : ∀ i, i < 6 → (Ts i).Perm (dropT (rgT now V i) id)) (hf : ∀ x, f x = tof (farT now V) x) (hc : c = (farT now V).length) (hg : ∀ x, g x = tof V x) (he : e = V.length)
    (m1 : MI .u64 29 W1 fm (upd f id none) (if (f id).isSome = true then c - 1 else c)) (t1 : Fr (fun k => k = fm) W W1) (m2 : MI .u64 29 W2 am (upd g id none) (if (g id).isSome = true then e - 1 else e)) (t2 : Fr (fun k => k = am) W1 W2) : WGo N F W W2 B now (rm V id) (rm V id) := by
  have hnf : (ids (farT now V)).Nodup := hn.sublist (List.filter_sublist.map _)
  refine ⟨F, ⟨fm, am, rs, Fs, ((h.setFar m1 t1).setAt m2 t2).congr (fun i hi => ?_) (fun x => ?_) ?_ (fun x => ?_) ?_⟩, fun k hk => .inl hk, (t1.weak (fun k hk => hk ▸ h.ffm)).trans (t2.weak (fun k hk => hk ▸ h.fam))⟩
  · rw [rg_drop]
    exact hT i hi
  · rw [far_rm, tof_rm hnf]
    unfold upd
    rw [hf]
  · rw [far_rm, tof_len hnf, hf, hc]
  · rw [tof_rm hn]
    unfold upd
    rw [hg]
  · rw [tof_len hn, hg, he]
set_option maxHeartbeats 8000000 in
set_option maxRecDepth 100000 in
theorem cancel_yes (h : WI N F W B now V V) (hT : TB N W) (tt : TT now V) (id a : Int) (hid : tof V id = some a) (hlen : V.length ≤ 90000) : Calls Tryd.prog 31 #[ptr B, .int .i64 id] W fun e w' => e = .returned (.tuple #[.int .u64 a, .bool true]) ∧ Aside0 (WGo N F W w' B now (rm V id) (rm V id)) := by
  have hd : (⟨id, a⟩ : S31) ∈ V := tof_get hid
  have hw : (Lit.int .i64 id).wf = true := tt.wf _ hd
  have hu : U a := tt.u _ hd
  have ha := at_calls h id hw
  rw [hid] at ha
  have HA := Aside0.mk ha
  have HT := Aside0.mk hT
  have HTT := Aside0.mk tt
  have h0 := Aside0.mk h
  have HD := Aside0.mk hd
  obtain ⟨fm, am, rs, Fs, h⟩ := h
  have hX := Aside0.mk h
  obtain ⟨L, hL⟩ : ∃ L, lv a now = L := ⟨_, rfl⟩
  have HL := Aside0.mk hL
  have HN := Aside0.mk hlen
  clear h ha hT tt hd hL hlen hid
  go_enter Tryd.func31, Tryd.ntmps31
  go_upto_region 4 with (go_at_call 48; refine HA.out.mono ?_; rintro e w1 ⟨rfl, hb1⟩)
  have hX1 := Aside0.mk (hX.out.step hb1)
  have c0 : w1.cell? ⟨B, 0, none⟩ = some (.int .u64 now) := (blk_cell hX1.out.blk 0).trans rfl
  have hwh := where_calls c0 (HT.out.step hb1).tab hu HTT.out.un
  rw [HL.out] at hwh
  have HW := Aside0.mk hwh
  clear c0 hwh
  go_upto_region 5 with (go_at_call 71; refine HW.out.mono ?_; rintro e w2 ⟨rfl, hb2⟩)
  have hX2 := Aside0.mk (hX1.out.step hb2)
  have hbb := Aside0.mk (below_step hb1 hb2)
  clear hb1 hb2 hX1 HW HA
  by_cases hl : L < 6
  · have hl1 : (L : Int) < 6 := by omega
    have hl0 : (0 : Int) ≤ (L : Int) := by omega
    have c1 : w2.cell? ⟨B, 1 + L, none⟩ = some (ptr (rs L)) := (blk_cell hX2.out.blk (1 + L)).trans (by rw [Nat.add_comm]; exact wc_ring _ _ _ _ hl)
    go_upto_region 7 with (go_at_call 17; refine (drop_ring (hX2.out.ring L hl) id hw (by have := rg_len now V L; have := HN.out; omega)).mono ?_; rintro e w3 ⟨rfl, hg⟩)
    obtain ⟨F', k1, k2, k3⟩ := hg.out
    have hX3 := hX2.out.setRing hl k1 k2 k3
    have hTs : ∀ i, i < 6 → (fput (rgT now V) L (dropT (rgT now V L) id) i).Perm (dropT (rgT now V i) id) := fun i hi => by
      by_cases e1 : i = L
      · subst e1
        rw [fput_same]
      · rw [fput_other e1, drop_none (rg_level HTT.out.nd HD.out (by rw [HL.out]; exact e1))]
    obtain ⟨w4, hrun4, hM4, ht4⟩ := hX3.far.drop ek29 (x := id) hw 0
    have hX4 := hX3.setFar hM4 (Fr.of_turned ht4)
    obtain ⟨w5, hrun5, hM5, ht5⟩ := hX4.at_.drop ek29 (x := id) hw 0
    have HG := Aside0.mk (cancel_far HTT.out.nd hX3 hTs (fun _ => rfl) rfl (fun _ => rfl) rfl hM4 (Fr.of_turned ht4) hM5 (Fr.of_turned ht5))
    have hK : Aside0 ((∀ k, (F k ∨ F' k) → F k ∨ w2.heap.size ≤ k) ∧ Fr F w2 w3) := ⟨fun k hk => by
      rcases hk with hk | hk
      · exact .inl hk
      · rcases k2 k hk with h2 | h2
        · exact .inl (hX2.out.sub L k hl h2).1
        · exact .inr h2, k3.weak (fun k hk => (hX2.out.sub L k hl hk).1)⟩
    have c2 : w3.cell? ⟨B, 7, none⟩ = some (.map (some fm)) := (blk_cell hX3.blk 7).trans rfl
    have c3 : w4.cell? ⟨B, 8, none⟩ = some (.map (some am)) := (blk_cell hX4.blk 8).trans rfl
    clear hg k1 k2 k3 hX3 hTs hM4 ht4 hX4 hM5 ht5 c1
    go_wp2
    go_ret2
    refine ⟨rfl, ⟨WGo.after hbb.out h0.out (fun _ => ?_)⟩⟩
    obtain ⟨F2, j1, j2, j3⟩ := HG.out
    refine ⟨F2, j1, fun k hk => ?_, Fr.then_ hK.out.2 j3 hK.out.1⟩
    rcases j2 k hk with h4 | h4
    · exact hK.out.1 k h4
    · exact .inr (Nat.le_trans hK.out.2.size h4)
  · have hl1 : ¬ (L : Int) < 6 := by omega
    have hl2 : (6 : Int) ≤ (L : Int) := by omega
    have hTs : ∀ i, i < 6 → (rgT now V i).Perm (dropT (rgT now V i) id) := fun i hi => by
      rw [drop_none (rg_level HTT.out.nd HD.out (by rw [HL.out]; omega))]
    obtain ⟨w4, hrun4, hM4, ht4⟩ := hX2.out.far.drop ek29 (x := id) hw 0
    have hX4 := hX2.out.setFar hM4 (Fr.of_turned ht4)
    obtain ⟨w5, hrun5, hM5, ht5⟩ := hX4.at_.drop ek29 (x := id) hw 0
    have HG := Aside0.mk (cancel_far HTT.out.nd hX2.out hTs (fun _ => rfl) rfl (fun _ => rfl) rfl hM4 (Fr.of_turned ht4) hM5 (Fr.of_turned ht5))
    have c2 : w2.cell? ⟨B, 7, none⟩ = some (.map (some fm)) := (blk_cell hX2.out.blk 7).trans rfl
    have c3 : w4.cell? ⟨B, 8, none⟩ = some (.map (some am)) := (blk_cell hX4.blk 8).trans rfl
    clear hTs hM4 ht4 hX4 hM5 ht5
    go_wp2
    go_ret2
    exact ⟨rfl, ⟨WGo.after hbb.out h0.out (fun _ => HG.out)⟩⟩
theorem cancel_W (h : WI N F W B now V V) (hT : TB N W) (tt : TT now V) (id : Int) (hw : (Lit.int .i64 id).wf = true) (hlen : V.length ≤ 90000) (r : Option Int) (hr : tof V id = r) : Calls Tryd.prog 31 #[ptr B, .int .i64 id] W fun e w' => e = .returned (.tuple #[.int .u64 (r.getD 0), .bool r.isSome]) ∧ Aside0 (WGo N F W w' B now (rm V id) (rm V id)) := by
  subst hr
  cases hc : tof V id with
  | none =>
    rw [rm_none (tof_none.1 hc)]
    refine (cancel_no h id hw (tof_none.1 hc)).mono ?_
    rintro e w' ⟨rfl, hb⟩
    exact ⟨rfl, ⟨h.go hb⟩⟩
  | some a => exact cancel_yes h hT tt id a hc hlen
end
end Go.Proofs.YtedolmjealgeoaaDoor.Wh

set_option linter.unusedVariables false
namespace Go.Proofs.YtedolmjealgeoaaDoor.Wh
open Go.RowKit Go.Maps Go.Proofs.YtedolmjealgeoaaDoor.PBase Go.Proofs.YtedolmjealgeoaaDoor.Cat Go.Proofs.YtedolmjealgeoaaDoor.Rg Go.Proofs.YtedolmjealgeoaaDoor.Tk Go.Proofs.YtedolmjealgeoaaDoorW.PrintWords Go.Proofs.YtedolmjealgeoaaDoorW.PrintLast Go.Proofs.YtedolmjealgeoaaDoorW.PrintMore
theorem ranges_keep {H : Type} {P : Program} {k : TypeId} {R : Value → Option (DataW H × List MemPlace)} {w w' : World} {b r n : Nat} {D : DataW H} {left : Lit → Bool} {cnt : Nat} (h : w.ranges P k R b r n D left cnt) (hb' : w'.heap[b]? = w.heap[b]?) (hr' : w'.heap[r]? = w.heap[r]?) : w'.ranges P k R b r n D left cnt := by
  obtain ⟨es, clock, since, seen, c0, hb, F, hs, hD, hr, rest⟩ := h
  exact ⟨es, clock, since, seen, c0, hb'.trans hb, F, hs, hD, hr'.trans hr, rest⟩
/-- Those of a slot first, the others behind. -/
theorem parts_perm (V : List S31) (p : S31 → Bool) : ((psort (V.filter p)).reverse ++ V.filter (fun d => !p d)).Perm V :=
  (((List.reverse_perm _).trans (psort_perm _)).append (List.Perm.refl _)).trans (List.filter_append_perm p V)
/-- Behind the Take, ahead of the puts: who stays lies where it belongs. -/
theorem stay_rg {now t : Int} {V : List S31} (tt : TT now V) (ht : U t) {k : Nat} (hk1 : q (k + 1) t = q (k + 1) now) (hk2 : q k t ≠ q k now) (hnt : now < t) (hge : ∀ d ∈ V, t ≤ d.f1) (i : Nat) :
    rgT t (V.filter (fun d => !(lv d.f1 now == k && dg d.f1 k == dg t k))) i = if i = k then (rgT now V k).filter (fun l => !(l.f0 == dg t k)) else rgT now V i := by
  have key : ∀ d ∈ V, (lv d.f1 now == k && dg d.f1 k == dg t k) = false → lv d.f1 t = lv d.f1 now := fun d hd h => (turn_stay (tt.u d hd) tt.un ht hk1 hk2 hnt (hge d hd) (fun e => by
    rw [e.1, e.2] at h
    simp at h)).1
  by_cases e1 : i = k
  · subst e1
    rw [if_pos rfl]
    unfold rgT
    rw [List.filter_map, List.filter_filter, List.filter_filter]
    congr 1
    apply List.filter_congr
    intro d hd
    cases hc : (lv d.f1 now == i && dg d.f1 i == dg t i) with
    | false =>
      rw [key d hd hc]
      cases h1 : lv d.f1 now == i with
      | false => simp
      | true =>
        rw [h1] at hc
        have h2 : (dg d.f1 i == dg t i) = false := by simpa using hc
        simp [h2]
    | true =>
      have h2 : (dg d.f1 i == dg t i) = true := (Bool.and_eq_true_iff.1 hc).2
      simp [h2]
  · rw [if_neg e1]
    unfold rgT
    rw [List.filter_filter]
    congr 1
    apply List.filter_congr
    intro d hd
    cases hc : (lv d.f1 now == k && dg d.f1 k == dg t k) with
    | false => rw [key d hd hc]; simp
    | true =>
      have h1 : lv d.f1 now = k := by simpa using (Bool.and_eq_true_iff.1 hc).1
      have : (lv d.f1 now == i) = false := by rw [h1]; simpa using Ne.symm e1
      simp [this]
theorem stay_far {now t : Int} {V : List S31} (tt : TT now V) (ht : U t) {k : Nat} (hk : k < 6) (hk1 : q (k + 1) t = q (k + 1) now) (hk2 : q k t ≠ q k now) (hnt : now < t) (hge : ∀ d ∈ V, t ≤ d.f1) :
    farT t (V.filter (fun d => !(lv d.f1 now == k && dg d.f1 k == dg t k))) = farT now V := by
  unfold farT
  rw [List.filter_filter]
  apply List.filter_congr
  intro d hd
  cases hc : (lv d.f1 now == k && dg d.f1 k == dg t k) with
  | false =>
    rw [(turn_stay (tt.u d hd) tt.un ht hk1 hk2 hnt (hge d hd) (fun e => by rw [e.1, e.2] at hc; simp at hc)).1]
    simp
  | true =>
    have h1 : lv d.f1 now = k := by simpa using (Bool.and_eq_true_iff.1 hc).1
    rw [h1]
    simp
    omega
/-- The i-th of those that are laid anew is new. -/
theorem step_new {M V' : List S31} (h : (ids (M.reverse ++ V')).Nodup) {i : Nat} (hi : i < M.length) : M[i].f0 ∉ ids ((M.take i).reverse ++ V') ∧ (M.take (i + 1)).reverse ++ V' = M[i] :: ((M.take i).reverse ++ V') := by
  have e2 : (M.take (i + 1)).reverse ++ V' = M[i] :: ((M.take i).reverse ++ V') := by
    rw [List.take_succ_eq_append_getElem hi, List.reverse_append]
    rfl
  refine ⟨?_, e2⟩
  have e1 : M.reverse = (M.drop (i + 1)).reverse ++ (M.take (i + 1)).reverse := by
    rw [← List.reverse_append, List.take_append_drop]
  rw [e1, List.append_assoc, e2] at h
  have h2 : (ids (M[i] :: ((M.take i).reverse ++ V'))).Nodup := by
    refine h.sublist ?_
    unfold ids
    rw [List.map_append]
    exact List.sublist_append_right _ _
  exact (List.nodup_cons.1 h2).1
section
variable {N : Nat} {F : Nat → Prop} {W W' : World} {B : Nat} {now t : Int} {T V : List S31}
set_option maxHeartbeats 8000000 in
set_option maxRecDepth 100000 in
/-- No time goes by. -/
theorem turn_none (h : WI N F W B now V V) (hT : TB N W) (tt : TT now V) : Calls Tryd.prog 74 #[ptr B, .int .u64 now] W fun e w' => e = .returned (.tuple #[]) ∧ Aside0 (WGo N F W w' B now V V) := by
  obtain ⟨k, hk, hi⟩ := top tt.un tt.un
  have e1 : k = -1 := by
    rcases hi with ⟨h, _⟩ | ⟨_, _, _, h⟩
    · exact h
    · exact absurd rfl h
  subst e1
  have HK := Aside0.mk hk
  have HT := Aside0.mk hT
  have h0 := Aside0.mk h
  obtain ⟨fm, am, rs, Fs, h⟩ := h
  have c0 : W.cell? ⟨B, 0, none⟩ = some (.int .u64 now) := (blk_cell h.blk 0).trans rfl
  have hX := Aside0.mk h
  clear h hT hk hi tt
  go_enter Tryd.func74, Tryd.ntmps74
  go_upto_region 1 with (go_at_call 51; refine (tick_Top.calls now now _ _ HK.out HT.out.tab).mono ?_; rintro e w1 ⟨rfl, hb1⟩)
  have hX1 := hX.out.step hb1
  have z1 : w1.cell? ⟨B, 0, none⟩ = some (.int .u64 now) := (blk_cell hX1.blk 0).trans rfl
  have z2 := blk_frozen hX1.blk 0
  have hS := Aside0.mk (hX1.setNow now)
  have HF := Aside0.mk (Fr.set w1 B 0 (.int .u64 now))
  have HB := Aside0.mk hb1
  have h1 := Aside0.mk hX1
  clear hX1 hb1 c0
  go_wp2
  go_end0
  exact ⟨rfl, ⟨WGo.after HB.out h0.out (fun _ => ⟨F, ⟨fm, am, rs, Fs, hS.out⟩, fun k hk => .inl hk, HF.out.weak (fun k hk => hk ▸ h1.out.fB)⟩)⟩⟩
set_option maxHeartbeats 8000000 in
set_option maxRecDepth 100000 in
/-- A slot of a ring is laid anew. -/
theorem turn_low (h : WI N F W B now V V) (hT : TB N W) (tt : TT now V) (ht : U t) (hnt : now < t) (hge : ∀ d ∈ V, t ≤ d.f1) (hlen : V.length ≤ 90000) (k : Nat) (hk6 : k < 6) (hk : tick_Top.f t now = some (k : Int)) (hk1 : q (k + 1) t = q (k + 1) now) (hk2 : q k t ≠ q k now) : Calls Tryd.prog 74 #[ptr B, .int .u64 t] W fun e w' => e = .returned (.tuple #[]) ∧ Aside0 (WGo N F W w' B t V V) := by
  have HK := Aside0.mk hk
  have HT := Aside0.mk hT
  have h0 := Aside0.mk h
  obtain ⟨fm, am, rs, Fs, h⟩ := h
  have c0 : W.cell? ⟨B, 0, none⟩ = some (.int .u64 now) := (blk_cell h.blk 0).trans rfl
  have hX := Aside0.mk h
  have HR := Aside0.mk (stay_rg tt ht hk1 hk2 hnt hge)
  have HQ := Aside0.mk (stay_far tt ht hk6 hk1 hk2 hnt hge)
  have HTT := Aside0.mk (tt.tm ht hge)
  have HN := Aside0.mk hlen
  have HD : Aside0 (tick_Digits.f 12 t = some (dg t 0, dg t 1, dg t 2, dg t 3, dg t 4, dg t 5, dg t 6, dg t 7, dg t 8, dg t 9, dg t 10)) := ⟨digits ht 0⟩
  have hkk : (k : Int) < 6 := by omega
  have hk0 : (0 : Int) ≤ (k : Int) := by omega
  have hix := run_index93 t (k := k) (by omega)
  obtain ⟨s, hs⟩ : ∃ s : Nat, dg t k = (s : Int) := ⟨(dg t k).toNat, by have := dg_range t k; omega⟩
  have hs64 : s < 64 := by have := dg_range t k; omega
  rw [hs] at hix
  have HS := Aside0.mk hs
  obtain ⟨M, hM⟩ : ∃ M, psort (atS (rgT now V k) (s : Int)) = M := ⟨_, rfl⟩
  have HM := Aside0.mk hM
  clear hM
  clear h hT hk hk1 hk2 hnt hge hlen tt hs
  go_enter Tryd.func74, Tryd.ntmps74
  go_upto_region 1 with (go_at_call 51; refine (tick_Top.calls t now _ _ HK.out HT.out.tab).mono ?_; rintro e w1 ⟨rfl, hb1⟩)
  have hX1 := hX.out.step hb1
  have z1 : w1.cell? ⟨B, 0, none⟩ = some (.int .u64 now) := (blk_cell hX1.blk 0).trans rfl
  have z2 := blk_frozen hX1.blk 0
  have hS := Aside0.mk (hX1.setNow t)
  have HF := Aside0.mk (Fr.set w1 B 0 (.int .u64 t))
  have HB := Aside0.mk hb1
  have h1 := Aside0.mk hX1
  clear hX1 hb1 c0
  go_upto_region 10 with (fail)
  generalize w1.setCell ⟨B, 0, none⟩ (.int .u64 t) = w2 at hS HF ⊢
  clear z1 z2
  have HT2 := Aside0.mk ((HT.out.step HB.out).fr HF.out (fun b hb => hb ▸ (hX.out.lt B hX.out.fB).1))
  have c1 : w2.cell? ⟨B, 1 + k, none⟩ = some (ptr (rs k)) := (blk_cell hS.out.blk (1 + k)).trans (by rw [Nat.add_comm]; exact wc_ring _ _ _ _ hk6)
  have hlr : (rgT now V k).length ≤ 100000 := by have := rg_len now V k; have := HN.out; omega
  have kp : Aside0 (∀ w', Fr (Fs k) w2 w' → w'.cell? ⟨B, 1 + k, none⟩ = some (ptr (rs k))) := ⟨fun w' hf => hf.cell c1 (fun e => (hS.out.sub k B hk6 e).2.1 rfl)⟩
  go_region_held3 (fun w' => w'.cell? ⟨B, 1 + k, none⟩ = some (ptr (rs k))) (first | exact kp.out _ (Fr.drew _) | exact kp.out _ ((Fr.drew _).trans (Fr.of_below hb3)) | exact kp.out _ (((Fr.drew _).trans (Fr.of_below hb3)).trans k3.out)) (first
    | (go_at_call 52; refine (tick_Digits.calls 12 t _ _ _ _ _ _ _ _ _ _ _ _ HD.out).mono ?_; rintro e w3 ⟨rfl, hb3⟩)
    | (go_at_call 20; have hTk := take_calls ((hS.out.ring k hk6).step (below_step (below_drew1 (Below.refl _ _)) hb3)) s hs64 hlr; rw [HM.out] at hTk; refine hTk.mono ?_; clear hTk; rintro e w4 ⟨v, rfl, hg⟩; obtain ⟨F1, kR, k1, k2, k3⟩ := hg.out; replace kR := Kd.R_bound kR; obtain ⟨A, c, rfl, hc, hC⟩ := Kd.R_reads kR; replace kR := Aside0.mk kR; replace k1 := Aside0.mk k1; replace k2 := Aside0.mk k2; replace k3 := Aside0.mk k3; clear hC hg))
  have hb3' := Aside0.mk (below_step (below_drew1 (Below.refl w2.heap.size w2)) hb3)
  have hFT : Aside0 (WI N (fun k => F k ∨ F1 k) w4 B t ((M.take 0).reverse ++ V.filter (fun d => !(lv d.f1 now == k && dg d.f1 k == dg t k))) V) := ⟨⟨fm, am, rs, _, ((hS.out.step hb3'.out).setRing hk6 k1.out k2.out k3.out).congr (fun i hi => by
    show (fput (rgT now V) k _ i).Perm (rgT t (V.filter (fun d => !(lv d.f1 now == k && dg d.f1 k == dg t k))) i)
    rw [HR.out i, HS.out]
    by_cases e1 : i = k
    · subst e1
      rw [fput_same, if_pos rfl]
    · rw [fput_other e1, if_neg e1]) (fun x => by
    show tof (farT now V) x = tof (farT t (V.filter (fun d => !(lv d.f1 now == k && dg d.f1 k == dg t k)))) x
    rw [HQ.out]) (by
    show (farT now V).length = (farT t (V.filter (fun d => !(lv d.f1 now == k && dg d.f1 k == dg t k)))).length
    rw [HQ.out]) (fun _ => rfl) rfl⟩⟩
  have hkey : Aside0 ((M.reverse ++ V.filter (fun d => !(lv d.f1 now == k && dg d.f1 k == dg t k))).Perm V) := ⟨by
    have h2 := parts_perm V (fun d => lv d.f1 now == k && dg d.f1 k == dg t k)
    have h3 := HM.out
    rw [rg_at, ← HS.out] at h3
    rw [h3] at h2
    exact h2⟩
  generalize V.filter (fun d => !(lv d.f1 now == k && dg d.f1 k == dg t k)) = V' at hFT hkey
  have hF2 : Aside0 (Fr F W w4) := ⟨(Fr.of_below HB.out).trans ((HF.out.weak (fun b hb => hb ▸ hS.out.fB)).trans ((Fr.of_below hb3'.out).trans (k3.out.weak (fun b hb => (hS.out.sub k b hk6 hb).1))))⟩
  have hK1 : Aside0 (∀ b, F b ∨ F1 b → F b ∨ w2.heap.size ≤ b) := ⟨fun b hb => by
    rcases hb with hb | hb
    · exact .inl hb
    · rcases k2.out b hb with h2 | h2
      · exact .inl (hS.out.sub k b hk6 h2).1
      · exact .inr (Nat.le_trans hb3'.out.size h2)⟩
  have hT4 := Aside0.mk (HT.out.fr hF2.out (fun b hb => (h0.out.lt b hb).1))
  have hRb : Aside0 (∀ b, (¬ F1 b ∧ w3.heap.size ≤ b) → ¬ (F b ∨ F1 b)) := ⟨fun b hb e => by
    rcases e with e | e
    · have h5 := (h0.out.lt b e).2
      have h6 := HB.out.size
      have h7 := HF.out.size
      have h8 := hb3'.out.size
      omega
    · exact hb.1 e⟩
  clear kp c1 hix hb3
  have hMl : M.length ≤ 90000 := by
    have h5 := hkey.out.length_eq
    have h6 := HN.out
    simp only [List.length_append, List.length_reverse] at h5
    omega
  go_wp2
  go_loopg [58] M.length (fun gk v58 wr => ∃ (i : Nat), v58 = .int .i64 i ∧ i ≤ M.length ∧ M.length - i ≤ gk ∧ Aside0 (∃ F', WI N F' wr B t ((M.take i).reverse ++ V') V ∧ (∀ b, F' b → (F b ∨ F1 b) ∨ w4.heap.size ≤ b) ∧ Fr (fun b => F b ∨ F1 b) w4 wr))
  case atStart => exact ⟨0, rfl, by omega, by omega, ⟨_, hFT.out, fun b hb => .inl hb, Fr.refl _ _⟩⟩
  case round =>
    obtain ⟨i, rfl, hi, hgg, hI⟩ := hrel
    by_cases hlt : i < M.length
    · have hltz : (i : Int) < (M.length : Int) := by omega
      obtain ⟨F2, g1, g2, g3⟩ := hI.out
      have g1 := Aside0.mk g1
      have g2 := Aside0.mk g2
      have g3 := Aside0.mk g3
      have hRr := Kd.R_kept kR.out (S := fun b => F b ∨ F1 b) ⟨g3.out.size, fun i hi hn => g3.out.blk i hi hn⟩ (fun b hb e => hRb.out b ⟨hb.1, hb.2.1⟩ e)
      obtain ⟨ad, e1, hx0, hx1⟩ := at_T31 (Kd.R_reads' hRr).2.2 (i : Int) (by omega) hltz
      subst e1
      rw [Int.toNat_natCast] at hx0 hx1
      obtain ⟨hnw, hst⟩ := step_new ((hkey.out.map _).nodup_iff.2 HTT.out.nd) hlt
      obtain ⟨x, hx⟩ : ∃ x, M[i] = x := ⟨_, rfl⟩
      rw [rd_nat M i hlt, hx] at hx0 hx1
      rw [hx] at hnw hst
      have hxV : x ∈ V := hkey.out.mem_iff.1 (List.mem_append_left _ (List.mem_reverse.2 (hx ▸ List.getElem_mem hlt)))
      have hll : ((M.take i).reverse ++ V').length ≤ 90000 := by
        have h5 := hkey.out.length_eq
        have h6 := HN.out
        simp only [List.length_append, List.length_reverse, List.length_take] at h5 ⊢
        omega
      have hbx := Aside0.mk (below_alloc (Below.refl wr.heap.size wr) (.cells #[.int .i64 x.f0, .int .u64 x.f1] 31))
      have hTr : TB N (wr.alloc (.cells #[.int .i64 x.f0, .int .u64 x.f1] 31)) := (hT4.out.fr g3.out (fun b hb => (hFT.out.lt b hb).1)).step hbx.out
      have hput := Aside0.mk (put_W (g1.out.step hbx.out) hTr HTT.out.un x hnw (HTT.out.wf x hxV) (HTT.out.u x hxV) hll)
      have HST := Aside0.mk hst
      clear hx hRr hI hnw hst hxV hll hTr
      go_wp2_with (go_at_call 73; refine hput.out.mono ?_; rintro e w6 ⟨rfl, hg⟩)
      go_roundg (M.length - (i + 1))
      case measure => omega
      case rel =>
        refine ⟨i + 1, by go_num, by omega, Nat.le_refl _, ⟨?_⟩⟩
        obtain ⟨F3, k1', k2', k3'⟩ := hg.out
        refine ⟨F3, by rw [HST.out]; exact k1', fun b hb => ?_, (g3.out.trans (Fr.of_below hbx.out)).then_ k3' (fun b hb => g2.out b hb)⟩
        rcases k2' b hb with hb | hb
        · exact g2.out b hb
        · exact .inr (Nat.le_trans g3.out.size (Nat.le_trans hbx.out.size hb))
    · obtain rfl : i = M.length := by omega
      have hltz : ¬ (M.length : Int) < (M.length : Int) := by omega
      go_wp2
      go_end0
      refine ⟨rfl, ⟨?_⟩⟩
      obtain ⟨F2, g1, g2, g3⟩ := hI.out
      rw [List.take_length] at g1
      refine ⟨F2, g1.perm hkey.out (List.Perm.refl _) ((hkey.out.map _).nodup_iff.2 HTT.out.nd) HTT.out.nd, fun b hb => ?_, Fr.then_ hF2.out g3 (fun b hb => ?_)⟩
      · rcases g2 b hb with hb | hb
        · rcases hK1.out b hb with hb | hb
          · exact .inl hb
          · exact .inr (Nat.le_trans (Nat.le_trans HB.out.size HF.out.size) hb)
        · exact .inr (Nat.le_trans hF2.out.size hb)
      · rcases hK1.out b hb with hb | hb
        · exact .inl hb
        · exact .inr (Nat.le_trans (Nat.le_trans HB.out.size HF.out.size) hb)
end
end Go.Proofs.YtedolmjealgeoaaDoor.Wh

set_option linter.unusedVariables false
namespace Go.Proofs.YtedolmjealgeoaaDoor.Wh
open Go.RowKit Go.Maps Go.Proofs.YtedolmjealgeoaaDoor.PBase Go.Proofs.YtedolmjealgeoaaDoor.Cat Go.Proofs.YtedolmjealgeoaaDoor.Rg Go.Proofs.YtedolmjealgeoaaDoor.Tk Go.Proofs.YtedolmjealgeoaaDoorW.PrintWords Go.Proofs.YtedolmjealgeoaaDoorW.PrintLast Go.Proofs.YtedolmjealgeoaaDoorW.PrintMore
theorem nodup_of_ids {T : List S31} (h : (ids T).Nodup) : T.Nodup := by
  unfold ids at h
  rw [List.Nodup, List.pairwise_map] at h
  exact h.imp (fun hn e => hn (by rw [e]))
theorem perm_of_mem {T V : List S31} (h1 : (ids T).Nodup) (h2 : (ids V).Nodup) (h : ∀ d, d ∈ T ↔ d ∈ V) : T.Perm V := (List.perm_ext_iff_of_nodup (nodup_of_ids h1) (nodup_of_ids h2)).2 h
/-- What a loop over all that is beyond the rings has seen (T), and what is to come. -/
structure Seen (V T : List S31) (left : Lit → Bool) (cnt : Nat) : Prop where
  sub : ∀ d ∈ T, d ∈ V ∧ left (.int .i64 d.f0) = false
  nd : (ids T).Nodup
  all : ∀ d ∈ V, d ∈ T ∨ left (.int .i64 d.f0) = true
  was : ∀ x, left (.int .i64 x) = true → (tof V x).isSome = true
  cnt : T.length + cnt ≤ V.length
theorem Seen.start {V : List S31} {left : Lit → Bool} {cnt : Nat} (h : ∀ x, left (.int .i64 x) = (tof V x).isSome) (hn : (ids V).Nodup) (hc : cnt = V.length) : Seen V [] left cnt :=
  ⟨fun d h => absurd h List.not_mem_nil, List.nodup_nil, fun d hd => .inr (by rw [h, tof_mem hn hd]; rfl), fun x hx => by rw [← h]; exact hx, by rw [hc]; simp⟩
theorem Seen.step {V T : List S31} {left : Lit → Bool} {cnt cnt1 : Nat} (h : Seen V T left cnt) (hn : (ids V).Nodup) {x c : Int} (hl : left (.int .i64 x) = true) (hV : (⟨x, c⟩ : S31) ∈ V) (hc : cnt1 < cnt) : Seen V (⟨x, c⟩ :: T) (fun z => left z && !z.sameKey (.int .i64 x)) cnt1 ∧ x ∉ ids T := by
  have hx : x ∉ ids T := fun e => by
    obtain ⟨d, hd, e2⟩ := List.mem_map.1 e
    have := (h.sub d hd).2
    rw [show d.f0 = x from e2, hl] at this
    cases this
  refine ⟨⟨fun d hd => ?_, List.nodup_cons.2 ⟨hx, h.nd⟩, fun d hd => ?_, fun y hy => ?_, ?_⟩, hx⟩
  · rcases List.mem_cons.1 hd with rfl | hd
    · exact ⟨hV, by simp [Lit.sameKey]⟩
    · exact ⟨(h.sub d hd).1, by simp [(h.sub d hd).2]⟩
  · rcases h.all d hd with h2 | h2
    · exact .inl (List.mem_cons_of_mem _ h2)
    · by_cases e : d.f0 = x
      · left
        have h3 := tof_mem hn hd
        rw [e, tof_mem hn hV] at h3
        have h4 : d.f1 = c := (Option.some.inj h3).symm
        have : d = ⟨x, c⟩ := by rw [← e, ← h4]
        rw [this]
        exact List.mem_cons_self
      · exact .inr (by simp [h2, Lit.sameKey, e])
  · exact h.was y (by
      have h2 : (left (.int .i64 y) && !(Lit.int .i64 y).sameKey (.int .i64 x)) = true := hy
      exact (Bool.and_eq_true_iff.1 h2).1)
  · have := h.cnt
    rw [List.length_cons]
    omega
theorem Seen.done {V T : List S31} {left : Lit → Bool} {cnt : Nat} (h : Seen V T left cnt) (hn : (ids V).Nodup) (hl : ∀ kl, left kl = false) : T.Perm V :=
  perm_of_mem h.nd hn (fun d => ⟨fun hd => (h.sub d hd).1, fun hd => by
    rcases h.all d hd with h2 | h2
    · exact h2
    · rw [hl] at h2; cases h2⟩)
/-- An entry that has come is a timer. -/
theorem entry_in {V : List S31} {H : Type} {D : DataW H} {x c : Int} (hat : ∀ z, D.atKey (.int .i64 x) z = .lit (.int .u64 c)) (hs : (tof V x).isSome = true) (hD : ∀ x y, tof V x = some y → ∀ z, D.atKey (.int .i64 x) z = .lit (.int .u64 y)) : (⟨x, c⟩ : S31) ∈ V := by
  obtain ⟨y, hy⟩ := Option.isSome_iff_exists.1 hs
  have h1 := hD x y hy (.lit (.int .u64 0))
  rw [hat] at h1
  simp only [DataW.lit.injEq, Lit.int.injEq, true_and] at h1
  rw [h1]
  exact tof_get hy
section
variable {N : Nat} {F : Nat → Prop} {W W' : World} {B : Nat} {now t : Int} {T V : List S31}
set_option maxHeartbeats 8000000 in
set_option maxRecDepth 100000 in
theorem turn_far (h : WI N F W B now V V) (hT : TB N W) (tt : TT now V) (ht : U t) (hnt : now < t) (hge : ∀ d ∈ V, t ≤ d.f1) (hlen : V.length ≤ 90000) (k : Nat) (hk6 : 6 ≤ k) (hk : tick_Top.f t now = some (k : Int)) (hk1 : q (k + 1) t = q (k + 1) now) (hk2 : q k t ≠ q k now) : Calls Tryd.prog 74 #[ptr B, .int .u64 t] W fun e w' => e = .returned (.tuple #[]) ∧ Aside0 (WGo N F W w' B t V V) := by
  have hlv : ∀ d ∈ V, 6 ≤ lv d.f1 now := fun d hd => Nat.le_trans hk6 (turn_ge (tt.u d hd) tt.un ht hk1 hk2 hnt (hge d hd))
  have hfar : farT now V = V := List.filter_eq_self.2 (fun d hd => by simpa using hlv d hd)
  have hrg : ∀ i, i < 6 → rgT now V i = rgT t [] i := fun i hi => by
    unfold rgT
    rw [List.filter_eq_nil_iff.2 (fun d hd => by have := hlv d hd; simp; omega)]
    rfl
  have HK := Aside0.mk hk
  have HT := Aside0.mk hT
  have h0 := Aside0.mk h
  obtain ⟨fm, am, rs, Fs, h⟩ := h
  rw [hfar] at h
  have c0 : W.cell? ⟨B, 0, none⟩ = some (.int .u64 now) := (blk_cell h.blk 0).trans rfl
  have hX := Aside0.mk h
  have HG := Aside0.mk hrg
  have HTT := Aside0.mk (tt.tm ht hge)
  have HN := Aside0.mk hlen
  have hkk : ¬ (k : Int) < 6 := by omega
  have hk0 : ¬ (k : Int) < 0 := by omega
  clear h hT hk hk1 hk2 hnt hge hlen tt hlv hfar hrg
  go_enter Tryd.func74, Tryd.ntmps74
  go_upto_region 1 with (go_at_call 51; refine (tick_Top.calls t now _ _ HK.out HT.out.tab).mono ?_; rintro e w1 ⟨rfl, hb1⟩)
  have hX1 := hX.out.step hb1
  have z1 : w1.cell? ⟨B, 0, none⟩ = some (.int .u64 now) := (blk_cell hX1.blk 0).trans rfl
  have z2 := blk_frozen hX1.blk 0
  have hS := Aside0.mk (hX1.setNow t)
  have HF := Aside0.mk (Fr.set w1 B 0 (.int .u64 t))
  have HB := Aside0.mk hb1
  clear hX1 hb1 c0
  go_upto_region 2 with (fail)
  generalize w1.setCell ⟨B, 0, none⟩ (.int .u64 t) = w2 at hS HF ⊢
  clear z1 z2
  have hNew := Aside0.mk hS.out.newFar
  have hbA := below_alloc (Below.refl w2.heap.size w2) (.map #[] 0)
  have hSA := hS.out.step hbA
  have z1 : w2.cell? ⟨B, 7, none⟩ = some (.map (some fm)) := (blk_cell hS.out.blk 7).trans rfl
  have z2 := blk_frozen hSA.blk 7
  have z3 : (w2.alloc (.map #[] 0)).cell? ⟨B, 7, none⟩ = some (.map (some fm)) := (blk_cell hSA.blk 7).trans rfl
  have hmm := @run_makeMap Tryd.prog
  have HFa := Aside0.mk (Fr.set (w2.alloc (.map #[] 0)) B 7 (.map (some w2.heap.size)))
  have hMo := Aside0.mk (hSA.far.fr HFa.out (fun e => hS.out.n1 e.symm))
  have HA := Aside0.mk hbA
  clear hSA hbA
  go_upto_region 4 with (fail)
  generalize (w2.alloc (.map #[] 0)).setCell ⟨B, 7, none⟩ (.map (some w2.heap.size)) = w3 at hNew HFa hMo ⊢
  clear z1 z2 z3 hmm
  obtain ⟨n, D, hown, hhas, hat0, hsz⟩ := hMo.out
  have Hhas := Aside0.mk hhas
  have Hat := Aside0.mk hat0
  have Hsz := Aside0.mk hsz
  clear hhas hat0 hsz
  have hF3 : Aside0 (Fr F W w3) := ⟨(Fr.of_below HB.out).trans ((HF.out.weak (fun b hb => hb ▸ hS.out.fB)).trans ((Fr.of_below HA.out).trans (HFa.out.weak (fun b hb => hb ▸ hS.out.fB))))⟩
  have hsz2 : Aside0 (W.heap.size ≤ w2.heap.size) := ⟨Nat.le_trans HB.out.size HF.out.size⟩
  have hI3 : Aside0 (WI N (fun b => (F b ∧ b ≠ fm) ∨ b = w2.heap.size) w3 B t [] V) := ⟨⟨w2.heap.size, am, rs, Fs, hNew.out.congr (fun i hi => by rw [HG.out i hi]) (fun _ => rfl) rfl (fun _ => rfl) rfl⟩⟩
  have hfm : Aside0 (fm < w2.heap.size ∧ w2.heap.size ≤ w3.heap.size) := ⟨(hS.out.lt fm hS.out.ffm).2, Nat.le_trans HA.out.size HFa.out.size⟩
  go_wp2_with (at_range; refine wpList_range_own _ rfl _ 123 rfl 3 29 law3 Tryd.underlying123 _ fm n D rfl hown ?_; intro w4 hrg4 hg4 hs4)
  go_frame
  have hI4 : Aside0 (WI N (fun b => (F b ∧ b ≠ fm) ∨ b = w2.heap.size) w4 B t [] V) := ⟨hI3.out.keep (Fr.of_grown (F := fun _ => False) hg4 (fun k e => by cases e)) (fun _ _ h => h)⟩
  have hF4 : Aside0 (Fr F W w4) := ⟨hF3.out.trans (Fr.of_grown hg4 (fun k e => by cases e))⟩
  have hR4 := Aside0.mk hrg4
  have hS4 := Aside0.mk hs4
  clear hrg4 hg4 hs4 hown
  go_loopg [8] V.length (fun gk v8 wr => ∃ (left : Lit → Bool) (cnt : Nat) (T : List S31), cnt ≤ gk ∧ Aside0 (wr.ranges Tryd.prog 3 (plainElem Tryd.prog 29) fm w3.heap.size n D left cnt) ∧ Aside0 (Seen V T left cnt) ∧ Aside0 (∃ F', WI N F' wr B t T V ∧ (∀ b, F' b → ((F b ∧ b ≠ fm) ∨ b = w2.heap.size) ∨ w4.heap.size ≤ b) ∧ Fr (fun b => ((F b ∧ b ≠ fm) ∨ b = w2.heap.size) ∨ b = w3.heap.size) w4 wr))
  case atStart => exact ⟨_, _, [], by rw [Hsz.out]; exact Nat.le_refl _, hR4, ⟨Seen.start Hhas.out HTT.out.nd Hsz.out⟩, ⟨_, hI4.out, fun b hb => .inl hb, Fr.refl _ _⟩⟩
  case round =>
    obtain ⟨left, cnt, T, hgg, hR, hSe, hI⟩ := hrel
    obtain ⟨F2, g1, g2, g3⟩ := hI.out
    have g1 := Aside0.mk g1
    have g2 := Aside0.mk g2
    have g3 := Aside0.mk g3
    clear hI
    have hr3 : Aside0 (∀ b, F2 b → b ≠ w3.heap.size ∧ b ≠ fm ∧ N ≤ b) := ⟨fun b hb => by
      have h5 := hS4.out
      have h6 := hfm.out
      have h7 := (g1.out.lt b hb).1
      rcases g2.out b hb with (⟨h8, h9⟩ | h8) | h8
      · have := (hS.out.lt b h8).2
        exact ⟨by omega, h9, h7⟩
      · exact ⟨by have := (hI3.out.lt _ (.inr rfl : (F w2.heap.size ∧ w2.heap.size ≠ fm) ∨ w2.heap.size = w2.heap.size)).2; omega, by omega, h7⟩
      · exact ⟨by omega, by omega, h7⟩⟩
    have HP : Aside0 (∀ (x c : Int) (w5 : World) (cnt1 : Nat), (Lit.int .i64 x).wf = true → left (.int .i64 x) = true → (∀ zd, D.atKey (.int .i64 x) zd = .lit (.int .u64 c)) → cnt1 < cnt → wr.grownBy w5 (some w3.heap.size) → Seen V (⟨x, c⟩ :: T) (fun z => left z && !z.sameKey (.int .i64 x)) cnt1 ∧ Calls Tryd.prog 73 #[ptr B, .agg #[.int .i64 x, .int .u64 c]] w5 fun e w' => e = .returned (.tuple #[]) ∧ Aside0 (WGo N F2 w5 w' B t (⟨x, c⟩ :: T) V)) := ⟨fun x c w5 cnt1 hwx hlx hat1 hlt5 hg5 => by
      have hV := entry_in hat1 (hSe.out.was x hlx) Hat.out
      obtain ⟨s1, s2⟩ := hSe.out.step HTT.out.nd hlx hV hlt5
      have hf5 := Fr.of_grown (F := fun b => b = w3.heap.size) hg5 (fun k e => (Option.some.inj e).symm)
      have hT4 : TB N w4 := HT.out.fr hF4.out (fun b hb => (h0.out.lt b hb).1)
      have hTr : TB N wr := hT4.fr g3.out (fun b hb => by
        rcases hb with hb | rfl
        · exact (hI4.out.lt b hb).1
        · exact Nat.le_trans (h0.out.lt B h0.out.fB).1 (Nat.le_trans (Nat.le_of_lt (h0.out.lt B h0.out.fB).2) (Nat.le_trans hsz2.out hfm.out.2)))
      have hT5 : TB N w5 := hTr.fr hf5 (fun b hb => by
        rw [hb]
        exact Nat.le_trans (h0.out.lt B h0.out.fB).1 (Nat.le_trans (Nat.le_of_lt (h0.out.lt B h0.out.fB).2) (Nat.le_trans hsz2.out hfm.out.2)))
      refine ⟨s1, put_W (g1.out.keep hf5 (fun b hb e => (hr3.out b hb).1 e)) hT5 HTT.out.un ⟨x, c⟩ s2 hwx (HTT.out.u _ hV) ?_⟩
      have h5 := hSe.out.cnt
      have h6 := HN.out
      omega⟩
    go_wp2_with (first
      | (at_next; refine wpList_next_ranges_ii _ rfl _ rfl 3 29 .i64 .u64 law3 Tryd.underlying3 Tryd.underlying29 fm w3.heap.size n _ _ _ rfl hR.out (fun hc0 hl0 => ?_) (fun x c w5 cnt1 hwx hwc hlx hat1 hrg5 hlt5 hg5 hs5 hen => ?_))
      | (go_at_call 73; refine (HP.out x c w5 cnt1 hwx hlx hat1 hlt5 hg5).2.mono ?_; rintro e w6 ⟨rfl, hg⟩))
    · go_end0
      refine ⟨rfl, ⟨?_⟩⟩
      have hp := hSe.out.done HTT.out.nd hl0
      refine ⟨F2, g1.out.perm hp (List.Perm.refl _) hSe.out.nd HTT.out.nd, fun b hb => ?_, hF4.out.then_ g3.out (fun b hb => ?_)⟩
      · rcases g2.out b hb with (h8 | h8) | h8
        · exact .inl h8.1
        · exact .inr (h8 ▸ hsz2.out)
        · exact .inr (Nat.le_trans hF4.out.size h8)
      · rcases hb with (h8 | h8) | h8
        · exact .inl h8.1
        · exact .inr (h8 ▸ hsz2.out)
        · exact .inr (h8 ▸ Nat.le_trans hsz2.out hfm.out.2)
    · go_roundg cnt1
      case measure => omega
      case rel =>
        obtain ⟨F3, k1, k2, k3⟩ := hg.out
        have hf5 := Fr.of_grown (F := fun b => b = w3.heap.size) hg5 (fun k e => (Option.some.inj e).symm)
        have hz := hrg5.lt
        have hz2 := hrg5.owns.lt
        refine ⟨_, cnt1, _, Nat.le_refl _, ⟨ranges_keep hrg5 (k3.blk fm hz2 (fun e => (hr3.out fm e).2.1 rfl)) (k3.blk _ hz (fun e => (hr3.out _ e).1 rfl))⟩, ⟨(HP.out x c w5 cnt1 hwx hlx hat1 hlt5 hg5).1⟩, ⟨F3, k1, fun b hb => ?_, ?_⟩⟩
        · rcases k2 b hb with hb | hb
          · exact g2.out b hb
          · exact .inr (Nat.le_trans g3.out.size (Nat.le_trans hf5.size hb))
        · refine (g3.out.trans (hf5.weak (fun b hb => .inr hb))).then_ k3 (fun b hb => ?_)
          rcases g2.out b hb with hb | hb
          · exact .inl (.inl hb)
          · exact .inr hb
theorem turn_W (h : WI N F W B now V V) (hT : TB N W) (tt : TT now V) (ht : U t) (hnt : now ≤ t) (hge : ∀ d ∈ V, t ≤ d.f1) (hlen : V.length ≤ 90000) : Calls Tryd.prog 74 #[ptr B, .int .u64 t] W fun e w' => e = .returned (.tuple #[]) ∧ Aside0 (WGo N F W w' B t V V) := by
  rcases Int.lt_or_eq_of_le hnt with hlt | rfl
  · obtain ⟨k, hk, hi⟩ := top ht tt.un
    rcases hi with ⟨_, hi⟩ | ⟨h0, h1, h2, h3⟩
    · omega
    · obtain ⟨j, rfl⟩ : ∃ j : Nat, k = (j : Int) := ⟨k.toNat, by omega⟩
      rw [Int.toNat_natCast] at h2 h3
      rcases Nat.lt_or_ge j 6 with hj | hj
      · exact turn_low h hT tt ht hlt hge hlen j hj hk h2 h3
      · exact turn_far h hT tt ht hlt hge hlen j hj hk h2 h3
  · exact turn_none h hT tt
end
end Go.Proofs.YtedolmjealgeoaaDoor.Wh
