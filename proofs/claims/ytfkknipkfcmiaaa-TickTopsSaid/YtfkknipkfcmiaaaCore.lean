/- What the functions of layer 1 come to, over the printed functions: sums, products, digits to the base of 64, where two differ first. Conditions: numbers of 64 bits. -/
import Derived.Test.YtfkknipkfcmiaaaPAllx2
import Derived.Test.YtfkknipkfcmiaaaPAllx4
namespace Go.Proofs.Ytfkknipkfcmiaaa.Core
open Go.RowKit Go.Proofs.Ytfkknipkfcmiaaa.PAll Go.Proofs.Ytfkknipkfcmiaaa.Add Go.Proofs.YtfkknipkfcmiaaaW.PrintWords Go.Proofs.YtfkknipkfcmiaaaW.PrintLast Go.Proofs.YtfkknipkfcmiaaaW.PrintMore
/-- A number of 64 bits. -/
def U (m : Int) : Prop := 0 ≤ m ∧ m < 18446744073709551616
/-! ### Sums and products -/
theorem sum {a b : Int} (ha : U a) (hb : U b) : tick_Sum.f a b = some (if a + b < 18446744073709551616 then (a + b, true) else (0, false)) := by
  unfold U at ha hb
  unfold tick_Sum.f
  rw [if_pos ha.1, if_pos hb.1]
  congr 1
  by_cases h : a + b < 18446744073709551616
  · rw [if_pos h, if_pos (by omega)]
    congr 1
    omega
  · rw [if_neg h, if_neg (by omega)]
theorem mul {a b : Int} (ha : U a) (hb : U b) : tick_Times.f a b = some (if a * b < 18446744073709551616 then (a * b, true) else (0, false)) := by
  unfold U at ha hb
  obtain ⟨n, rfl⟩ := Int.eq_ofNat_of_zero_le ha.1
  obtain ⟨m, rfl⟩ := Int.eq_ofNat_of_zero_le hb.1
  unfold tick_Times.f bits_Mul64.f
  rw [if_pos ha, if_pos hb, Option.bind_some, Int.toNat_natCast, Int.toNat_natCast, ← Int.natCast_mul]
  generalize n * m = p
  by_cases h : ((p : Nat) : Int) < 18446744073709551616
  · rw [if_pos h, if_pos (by show ((p / 18446744073709551616 : Nat) : Int) = 0; omega)]
    show some (((p % 18446744073709551616 : Nat) : Int), true) = _
    rw [Nat.mod_eq_of_lt (by omega)]
  · rw [if_neg h, if_neg (by show ¬ ((p / 18446744073709551616 : Nat) : Int) = 0; omega)]
theorem held {a b : Int} (ha : U a) (hb : U b) : tick_Held.f a b = some (if a + b < 18446744073709551616 then a + b else 18446744073709551615) := by
  unfold tick_Held.f
  rw [sum ha hb, Option.bind_some]
  by_cases h : a + b < 18446744073709551616
  · rw [if_pos h, if_pos h, if_pos rfl]
  · rw [if_neg h, if_neg h, if_neg (by decide)]
/-! ### Digits -/
/-- The number without its i lowest digits. -/
def q : Nat → Int → Int
  | 0, x => x
  | i + 1, x => q i x / 64
/-- The i-th digit. -/
def dg (x : Int) (i : Nat) : Int := q i x % 64
theorem q_eq : ∀ (i : Nat) (x : Int), q i x = x / 64 ^ i
  | 0, x => by rw [q, Int.pow_zero, Int.ediv_one]
  | i + 1, x => by rw [q, q_eq i x, Int.ediv_ediv_of_nonneg (by exact Int.pow_nonneg (by decide)), Int.pow_succ]
theorem wq {x : Int} (h : U x) : IntKind.u64.wrap (Int.tdiv x 64) = x / 64 := by
  unfold U at h
  rw [IntKind.wrap_u64, Int.tdiv_eq_ediv_of_nonneg h.1]
  omega
theorem wm {x : Int} (h : U x) : wrap64 (Int.tmod x 64) = x % 64 := by
  unfold U at h
  rw [Int.tmod_eq_emod_of_nonneg h.1]
  unfold wrap64
  omega
theorem U_q {x : Int} (h : U x) : U (x / 64) := by unfold U at *; omega
/-- All digits. -/
def dgs (x : Int) : Int × Int × Int × Int × Int × Int × Int × Int × Int × Int × Int := (dg x 0, dg x 1, dg x 2, dg x 3, dg x 4, dg x 5, dg x 6, dg x 7, dg x 8, dg x 9, dg x 10)

theorem step0 (k : Nat) (x d0 d1 d2 d3 d4 d5 d6 d7 d8 d9 d10 : Int) (hx : U x) : tick_Digits.l0 (k + 1) x 0 d0 d1 d2 d3 d4 d5 d6 d7 d8 d9 d10 = tick_Digits.l0 k (x / 64) 1 (x % 64) d1 d2 d3 d4 d5 d6 d7 d8 d9 d10 := by
  rw [tick_Digits.l0, if_pos (by decide), if_pos rfl, wq hx, wm hx, show wrap64 ((0 : Int) + 1) = 1 by decide +kernel]

theorem step1 (k : Nat) (x d0 d1 d2 d3 d4 d5 d6 d7 d8 d9 d10 : Int) (hx : U x) : tick_Digits.l0 (k + 1) x 1 d0 d1 d2 d3 d4 d5 d6 d7 d8 d9 d10 = tick_Digits.l0 k (x / 64) 2 d0 (x % 64) d2 d3 d4 d5 d6 d7 d8 d9 d10 := by
  rw [tick_Digits.l0, if_pos (by decide), if_neg (by decide), if_pos rfl, wq hx, wm hx, show wrap64 ((1 : Int) + 1) = 2 by decide +kernel]

theorem step2 (k : Nat) (x d0 d1 d2 d3 d4 d5 d6 d7 d8 d9 d10 : Int) (hx : U x) : tick_Digits.l0 (k + 1) x 2 d0 d1 d2 d3 d4 d5 d6 d7 d8 d9 d10 = tick_Digits.l0 k (x / 64) 3 d0 d1 (x % 64) d3 d4 d5 d6 d7 d8 d9 d10 := by
  rw [tick_Digits.l0, if_pos (by decide), if_neg (by decide), if_neg (by decide), if_pos rfl, wq hx, wm hx, show wrap64 ((2 : Int) + 1) = 3 by decide +kernel]

theorem step3 (k : Nat) (x d0 d1 d2 d3 d4 d5 d6 d7 d8 d9 d10 : Int) (hx : U x) : tick_Digits.l0 (k + 1) x 3 d0 d1 d2 d3 d4 d5 d6 d7 d8 d9 d10 = tick_Digits.l0 k (x / 64) 4 d0 d1 d2 (x % 64) d4 d5 d6 d7 d8 d9 d10 := by
  rw [tick_Digits.l0, if_pos (by decide), if_neg (by decide), if_neg (by decide), if_neg (by decide), if_pos rfl, wq hx, wm hx, show wrap64 ((3 : Int) + 1) = 4 by decide +kernel]

theorem step4 (k : Nat) (x d0 d1 d2 d3 d4 d5 d6 d7 d8 d9 d10 : Int) (hx : U x) : tick_Digits.l0 (k + 1) x 4 d0 d1 d2 d3 d4 d5 d6 d7 d8 d9 d10 = tick_Digits.l0 k (x / 64) 5 d0 d1 d2 d3 (x % 64) d5 d6 d7 d8 d9 d10 := by
  rw [tick_Digits.l0, if_pos (by decide), if_neg (by decide), if_neg (by decide), if_neg (by decide), if_neg (by decide), if_pos rfl, wq hx, wm hx, show wrap64 ((4 : Int) + 1) = 5 by decide +kernel]

theorem step5 (k : Nat) (x d0 d1 d2 d3 d4 d5 d6 d7 d8 d9 d10 : Int) (hx : U x) : tick_Digits.l0 (k + 1) x 5 d0 d1 d2 d3 d4 d5 d6 d7 d8 d9 d10 = tick_Digits.l0 k (x / 64) 6 d0 d1 d2 d3 d4 (x % 64) d6 d7 d8 d9 d10 := by
  rw [tick_Digits.l0, if_pos (by decide), if_neg (by decide), if_neg (by decide), if_neg (by decide), if_neg (by decide), if_neg (by decide), if_pos rfl, wq hx, wm hx, show wrap64 ((5 : Int) + 1) = 6 by decide +kernel]

theorem step6 (k : Nat) (x d0 d1 d2 d3 d4 d5 d6 d7 d8 d9 d10 : Int) (hx : U x) : tick_Digits.l0 (k + 1) x 6 d0 d1 d2 d3 d4 d5 d6 d7 d8 d9 d10 = tick_Digits.l0 k (x / 64) 7 d0 d1 d2 d3 d4 d5 (x % 64) d7 d8 d9 d10 := by
  rw [tick_Digits.l0, if_pos (by decide), if_neg (by decide), if_neg (by decide), if_neg (by decide), if_neg (by decide), if_neg (by decide), if_neg (by decide), if_pos rfl, wq hx, wm hx, show wrap64 ((6 : Int) + 1) = 7 by decide +kernel]

theorem step7 (k : Nat) (x d0 d1 d2 d3 d4 d5 d6 d7 d8 d9 d10 : Int) (hx : U x) : tick_Digits.l0 (k + 1) x 7 d0 d1 d2 d3 d4 d5 d6 d7 d8 d9 d10 = tick_Digits.l0 k (x / 64) 8 d0 d1 d2 d3 d4 d5 d6 (x % 64) d8 d9 d10 := by
  rw [tick_Digits.l0, if_pos (by decide), if_neg (by decide), if_neg (by decide), if_neg (by decide), if_neg (by decide), if_neg (by decide), if_neg (by decide), if_neg (by decide), if_pos rfl, wq hx, wm hx, show wrap64 ((7 : Int) + 1) = 8 by decide +kernel]

theorem step8 (k : Nat) (x d0 d1 d2 d3 d4 d5 d6 d7 d8 d9 d10 : Int) (hx : U x) : tick_Digits.l0 (k + 1) x 8 d0 d1 d2 d3 d4 d5 d6 d7 d8 d9 d10 = tick_Digits.l0 k (x / 64) 9 d0 d1 d2 d3 d4 d5 d6 d7 (x % 64) d9 d10 := by
  rw [tick_Digits.l0, if_pos (by decide), if_neg (by decide), if_neg (by decide), if_neg (by decide), if_neg (by decide), if_neg (by decide), if_neg (by decide), if_neg (by decide), if_neg (by decide), if_pos rfl, wq hx, wm hx, show wrap64 ((8 : Int) + 1) = 9 by decide +kernel]

theorem step9 (k : Nat) (x d0 d1 d2 d3 d4 d5 d6 d7 d8 d9 d10 : Int) (hx : U x) : tick_Digits.l0 (k + 1) x 9 d0 d1 d2 d3 d4 d5 d6 d7 d8 d9 d10 = tick_Digits.l0 k (x / 64) 10 d0 d1 d2 d3 d4 d5 d6 d7 d8 (x % 64) d10 := by
  rw [tick_Digits.l0, if_pos (by decide), if_neg (by decide), if_neg (by decide), if_neg (by decide), if_neg (by decide), if_neg (by decide), if_neg (by decide), if_neg (by decide), if_neg (by decide), if_neg (by decide), if_pos rfl, wq hx, wm hx, show wrap64 ((9 : Int) + 1) = 10 by decide +kernel]

theorem step10 (k : Nat) (x d0 d1 d2 d3 d4 d5 d6 d7 d8 d9 d10 : Int) (hx : U x) : tick_Digits.l0 (k + 1) x 10 d0 d1 d2 d3 d4 d5 d6 d7 d8 d9 d10 = tick_Digits.l0 k (x / 64) 11 d0 d1 d2 d3 d4 d5 d6 d7 d8 d9 (x % 64) := by
  rw [tick_Digits.l0, if_pos (by decide), if_neg (by decide), if_neg (by decide), if_neg (by decide), if_neg (by decide), if_neg (by decide), if_neg (by decide), if_neg (by decide), if_neg (by decide), if_neg (by decide), if_neg (by decide), if_pos rfl, wq hx, wm hx, show wrap64 ((10 : Int) + 1) = 11 by decide +kernel]

theorem digits {x : Int} (hx : U x) (k : Nat) : tick_Digits.f (k + 12) x = some (dgs x) := by
  have u1 := U_q hx
  have u2 := U_q u1
  have u3 := U_q u2
  have u4 := U_q u3
  have u5 := U_q u4
  have u6 := U_q u5
  have u7 := U_q u6
  have u8 := U_q u7
  have u9 := U_q u8
  have u10 := U_q u9
  have u11 := U_q u10
  unfold tick_Digits.f
  rw [show k + 12 = k + 11 + 1 from rfl, step0 _ _ _ _ _ _ _ _ _ _ _ _ _ hx, show k + 11 = k + 10 + 1 from rfl, step1 _ _ _ _ _ _ _ _ _ _ _ _ _ u1, show k + 10 = k + 9 + 1 from rfl, step2 _ _ _ _ _ _ _ _ _ _ _ _ _ u2, show k + 9 = k + 8 + 1 from rfl, step3 _ _ _ _ _ _ _ _ _ _ _ _ _ u3, show k + 8 = k + 7 + 1 from rfl, step4 _ _ _ _ _ _ _ _ _ _ _ _ _ u4, show k + 7 = k + 6 + 1 from rfl, step5 _ _ _ _ _ _ _ _ _ _ _ _ _ u5, show k + 6 = k + 5 + 1 from rfl, step6 _ _ _ _ _ _ _ _ _ _ _ _ _ u6, show k + 5 = k + 4 + 1 from rfl, step7 _ _ _ _ _ _ _ _ _ _ _ _ _ u7, show k + 4 = k + 3 + 1 from rfl, step8 _ _ _ _ _ _ _ _ _ _ _ _ _ u8, show k + 3 = k + 2 + 1 from rfl, step9 _ _ _ _ _ _ _ _ _ _ _ _ _ u9, show k + 2 = k + 1 + 1 from rfl, step10 _ _ _ _ _ _ _ _ _ _ _ _ _ u10, tick_Digits.l0, if_neg (by decide)]
  rfl

/-! ### The number of digits -/
theorem wd {d : Int} (h0 : 0 ≤ d) (h1 : d < 64) : IntKind.u64.wrap d = d := by rw [IntKind.wrap_u64]; omega
theorem wxd {x d : Int} (x0 : 0 ≤ x) (x1 : x < 288230376151711744) (h0 : 0 ≤ d) (h1 : d < 64) : IntKind.u64.wrap (x * 64 + IntKind.u64.wrap d) = x * 64 + d := by rw [wd h0 h1, IntKind.wrap_u64]; omega
theorem times64 {x : Int} (x0 : 0 ≤ x) (x1 : x < 288230376151711744) : tick_Times.f x 64 = some (x * 64, true) := by
  rw [mul (by unfold U; omega) (by unfold U; omega), if_pos (by omega)]
theorem times64_over {x : Int} (x0 : 288230376151711744 ≤ x) (x1 : x < 18446744073709551616) : tick_Times.f x 64 = some (0, false) := by
  rw [mul (by unfold U; omega) (by unfold U; omega), if_neg (by omega)]
theorem wrx {x : Int} (x0 : 0 ≤ x) (x1 : x < 288230376151711744) : IntKind.u64.wrap (x * 64) = x * 64 := by rw [IntKind.wrap_u64]; omega

theorem of10 (k : Nat) (x d0 d1 d2 d3 d4 d5 d6 d7 d8 d9 d10 : Int) (x0 : 0 ≤ x) (x1 : x < 288230376151711744) : tick_Of.l0 (k + 1) x 10 d0 d1 d2 d3 d4 d5 d6 d7 d8 d9 d10 = if 0 ≤ d10 ∧ d10 < 64 then tick_Of.l0 k (x * 64 + d10) 9 d0 d1 d2 d3 d4 d5 d6 d7 d8 d9 d10 else some (0, false) := by
  rw [tick_Of.l0, if_pos (by decide), times64 x0 x1, Option.bind_some, if_pos rfl, if_neg (by decide), if_neg (by decide), if_neg (by decide), if_neg (by decide), if_neg (by decide), if_neg (by decide), if_neg (by decide), if_neg (by decide), if_neg (by decide), if_neg (by decide), if_pos rfl]
  by_cases h : 0 ≤ d10 ∧ d10 < 64
  · rw [if_pos h, if_neg (by omega), if_neg (by omega), wxd x0 x1 h.1 (by omega), show wrap64 ((10 : Int) - 1) = 9 by decide +kernel]
  · rw [if_neg h]
    by_cases h0 : d10 < 0
    · rw [if_pos h0]
    · rw [if_neg h0]
      rw [if_pos (by omega)]

theorem of9 (k : Nat) (x d0 d1 d2 d3 d4 d5 d6 d7 d8 d9 d10 : Int) (x0 : 0 ≤ x) (x1 : x < 288230376151711744) : tick_Of.l0 (k + 1) x 9 d0 d1 d2 d3 d4 d5 d6 d7 d8 d9 d10 = if 0 ≤ d9 ∧ d9 < 64 then tick_Of.l0 k (x * 64 + d9) 8 d0 d1 d2 d3 d4 d5 d6 d7 d8 d9 d10 else some (0, false) := by
  rw [tick_Of.l0, if_pos (by decide), times64 x0 x1, Option.bind_some, if_pos rfl, if_neg (by decide), if_neg (by decide), if_neg (by decide), if_neg (by decide), if_neg (by decide), if_neg (by decide), if_neg (by decide), if_neg (by decide), if_neg (by decide), if_pos rfl]
  by_cases h : 0 ≤ d9 ∧ d9 < 64
  · rw [if_pos h, if_neg (by omega), if_neg (by omega), wxd x0 x1 h.1 (by omega), show wrap64 ((9 : Int) - 1) = 8 by decide +kernel]
  · rw [if_neg h]
    by_cases h0 : d9 < 0
    · rw [if_pos h0]
    · rw [if_neg h0]
      rw [if_pos (by omega)]

theorem of8 (k : Nat) (x d0 d1 d2 d3 d4 d5 d6 d7 d8 d9 d10 : Int) (x0 : 0 ≤ x) (x1 : x < 288230376151711744) : tick_Of.l0 (k + 1) x 8 d0 d1 d2 d3 d4 d5 d6 d7 d8 d9 d10 = if 0 ≤ d8 ∧ d8 < 64 then tick_Of.l0 k (x * 64 + d8) 7 d0 d1 d2 d3 d4 d5 d6 d7 d8 d9 d10 else some (0, false) := by
  rw [tick_Of.l0, if_pos (by decide), times64 x0 x1, Option.bind_some, if_pos rfl, if_neg (by decide), if_neg (by decide), if_neg (by decide), if_neg (by decide), if_neg (by decide), if_neg (by decide), if_neg (by decide), if_neg (by decide), if_pos rfl]
  by_cases h : 0 ≤ d8 ∧ d8 < 64
  · rw [if_pos h, if_neg (by omega), if_neg (by omega), wxd x0 x1 h.1 (by omega), show wrap64 ((8 : Int) - 1) = 7 by decide +kernel]
  · rw [if_neg h]
    by_cases h0 : d8 < 0
    · rw [if_pos h0]
    · rw [if_neg h0]
      rw [if_pos (by omega)]

theorem of7 (k : Nat) (x d0 d1 d2 d3 d4 d5 d6 d7 d8 d9 d10 : Int) (x0 : 0 ≤ x) (x1 : x < 288230376151711744) : tick_Of.l0 (k + 1) x 7 d0 d1 d2 d3 d4 d5 d6 d7 d8 d9 d10 = if 0 ≤ d7 ∧ d7 < 64 then tick_Of.l0 k (x * 64 + d7) 6 d0 d1 d2 d3 d4 d5 d6 d7 d8 d9 d10 else some (0, false) := by
  rw [tick_Of.l0, if_pos (by decide), times64 x0 x1, Option.bind_some, if_pos rfl, if_neg (by decide), if_neg (by decide), if_neg (by decide), if_neg (by decide), if_neg (by decide), if_neg (by decide), if_neg (by decide), if_pos rfl]
  by_cases h : 0 ≤ d7 ∧ d7 < 64
  · rw [if_pos h, if_neg (by omega), if_neg (by omega), wxd x0 x1 h.1 (by omega), show wrap64 ((7 : Int) - 1) = 6 by decide +kernel]
  · rw [if_neg h]
    by_cases h0 : d7 < 0
    · rw [if_pos h0]
    · rw [if_neg h0]
      rw [if_pos (by omega)]

theorem of6 (k : Nat) (x d0 d1 d2 d3 d4 d5 d6 d7 d8 d9 d10 : Int) (x0 : 0 ≤ x) (x1 : x < 288230376151711744) : tick_Of.l0 (k + 1) x 6 d0 d1 d2 d3 d4 d5 d6 d7 d8 d9 d10 = if 0 ≤ d6 ∧ d6 < 64 then tick_Of.l0 k (x * 64 + d6) 5 d0 d1 d2 d3 d4 d5 d6 d7 d8 d9 d10 else some (0, false) := by
  rw [tick_Of.l0, if_pos (by decide), times64 x0 x1, Option.bind_some, if_pos rfl, if_neg (by decide), if_neg (by decide), if_neg (by decide), if_neg (by decide), if_neg (by decide), if_neg (by decide), if_pos rfl]
  by_cases h : 0 ≤ d6 ∧ d6 < 64
  · rw [if_pos h, if_neg (by omega), if_neg (by omega), wxd x0 x1 h.1 (by omega), show wrap64 ((6 : Int) - 1) = 5 by decide +kernel]
  · rw [if_neg h]
    by_cases h0 : d6 < 0
    · rw [if_pos h0]
    · rw [if_neg h0]
      rw [if_pos (by omega)]

theorem of5 (k : Nat) (x d0 d1 d2 d3 d4 d5 d6 d7 d8 d9 d10 : Int) (x0 : 0 ≤ x) (x1 : x < 288230376151711744) : tick_Of.l0 (k + 1) x 5 d0 d1 d2 d3 d4 d5 d6 d7 d8 d9 d10 = if 0 ≤ d5 ∧ d5 < 64 then tick_Of.l0 k (x * 64 + d5) 4 d0 d1 d2 d3 d4 d5 d6 d7 d8 d9 d10 else some (0, false) := by
  rw [tick_Of.l0, if_pos (by decide), times64 x0 x1, Option.bind_some, if_pos rfl, if_neg (by decide), if_neg (by decide), if_neg (by decide), if_neg (by decide), if_neg (by decide), if_pos rfl]
  by_cases h : 0 ≤ d5 ∧ d5 < 64
  · rw [if_pos h, if_neg (by omega), if_neg (by omega), wxd x0 x1 h.1 (by omega), show wrap64 ((5 : Int) - 1) = 4 by decide +kernel]
  · rw [if_neg h]
    by_cases h0 : d5 < 0
    · rw [if_pos h0]
    · rw [if_neg h0]
      rw [if_pos (by omega)]

theorem of4 (k : Nat) (x d0 d1 d2 d3 d4 d5 d6 d7 d8 d9 d10 : Int) (x0 : 0 ≤ x) (x1 : x < 288230376151711744) : tick_Of.l0 (k + 1) x 4 d0 d1 d2 d3 d4 d5 d6 d7 d8 d9 d10 = if 0 ≤ d4 ∧ d4 < 64 then tick_Of.l0 k (x * 64 + d4) 3 d0 d1 d2 d3 d4 d5 d6 d7 d8 d9 d10 else some (0, false) := by
  rw [tick_Of.l0, if_pos (by decide), times64 x0 x1, Option.bind_some, if_pos rfl, if_neg (by decide), if_neg (by decide), if_neg (by decide), if_neg (by decide), if_pos rfl]
  by_cases h : 0 ≤ d4 ∧ d4 < 64
  · rw [if_pos h, if_neg (by omega), if_neg (by omega), wxd x0 x1 h.1 (by omega), show wrap64 ((4 : Int) - 1) = 3 by decide +kernel]
  · rw [if_neg h]
    by_cases h0 : d4 < 0
    · rw [if_pos h0]
    · rw [if_neg h0]
      rw [if_pos (by omega)]

theorem of3 (k : Nat) (x d0 d1 d2 d3 d4 d5 d6 d7 d8 d9 d10 : Int) (x0 : 0 ≤ x) (x1 : x < 288230376151711744) : tick_Of.l0 (k + 1) x 3 d0 d1 d2 d3 d4 d5 d6 d7 d8 d9 d10 = if 0 ≤ d3 ∧ d3 < 64 then tick_Of.l0 k (x * 64 + d3) 2 d0 d1 d2 d3 d4 d5 d6 d7 d8 d9 d10 else some (0, false) := by
  rw [tick_Of.l0, if_pos (by decide), times64 x0 x1, Option.bind_some, if_pos rfl, if_neg (by decide), if_neg (by decide), if_neg (by decide), if_pos rfl]
  by_cases h : 0 ≤ d3 ∧ d3 < 64
  · rw [if_pos h, if_neg (by omega), if_neg (by omega), wxd x0 x1 h.1 (by omega), show wrap64 ((3 : Int) - 1) = 2 by decide +kernel]
  · rw [if_neg h]
    by_cases h0 : d3 < 0
    · rw [if_pos h0]
    · rw [if_neg h0]
      rw [if_pos (by omega)]

theorem of2 (k : Nat) (x d0 d1 d2 d3 d4 d5 d6 d7 d8 d9 d10 : Int) (x0 : 0 ≤ x) (x1 : x < 288230376151711744) : tick_Of.l0 (k + 1) x 2 d0 d1 d2 d3 d4 d5 d6 d7 d8 d9 d10 = if 0 ≤ d2 ∧ d2 < 64 then tick_Of.l0 k (x * 64 + d2) 1 d0 d1 d2 d3 d4 d5 d6 d7 d8 d9 d10 else some (0, false) := by
  rw [tick_Of.l0, if_pos (by decide), times64 x0 x1, Option.bind_some, if_pos rfl, if_neg (by decide), if_neg (by decide), if_pos rfl]
  by_cases h : 0 ≤ d2 ∧ d2 < 64
  · rw [if_pos h, if_neg (by omega), if_neg (by omega), wxd x0 x1 h.1 (by omega), show wrap64 ((2 : Int) - 1) = 1 by decide +kernel]
  · rw [if_neg h]
    by_cases h0 : d2 < 0
    · rw [if_pos h0]
    · rw [if_neg h0]
      rw [if_pos (by omega)]

theorem of1 (k : Nat) (x d0 d1 d2 d3 d4 d5 d6 d7 d8 d9 d10 : Int) (x0 : 0 ≤ x) (x1 : x < 288230376151711744) : tick_Of.l0 (k + 1) x 1 d0 d1 d2 d3 d4 d5 d6 d7 d8 d9 d10 = if 0 ≤ d1 ∧ d1 < 64 then tick_Of.l0 k (x * 64 + d1) 0 d0 d1 d2 d3 d4 d5 d6 d7 d8 d9 d10 else some (0, false) := by
  rw [tick_Of.l0, if_pos (by decide), times64 x0 x1, Option.bind_some, if_pos rfl, if_neg (by decide), if_pos rfl]
  by_cases h : 0 ≤ d1 ∧ d1 < 64
  · rw [if_pos h, if_neg (by omega), if_neg (by omega), wxd x0 x1 h.1 (by omega), show wrap64 ((1 : Int) - 1) = 0 by decide +kernel]
  · rw [if_neg h]
    by_cases h0 : d1 < 0
    · rw [if_pos h0]
    · rw [if_neg h0]
      rw [if_pos (by omega)]

theorem of0 (k : Nat) (x d0 d1 d2 d3 d4 d5 d6 d7 d8 d9 d10 : Int) (x0 : 0 ≤ x) (x1 : x < 288230376151711744) : tick_Of.l0 (k + 1) x 0 d0 d1 d2 d3 d4 d5 d6 d7 d8 d9 d10 = if 0 ≤ d0 ∧ d0 < 64 then tick_Of.l0 k (x * 64 + d0) (-1) d0 d1 d2 d3 d4 d5 d6 d7 d8 d9 d10 else some (0, false) := by
  rw [tick_Of.l0, if_pos (by decide), times64 x0 x1, Option.bind_some, if_pos rfl, if_pos rfl]
  by_cases h : 0 ≤ d0 ∧ d0 < 64
  · rw [if_pos h, if_neg (by omega), if_neg (by omega), wxd x0 x1 h.1 (by omega), show wrap64 ((0 : Int) - 1) = (-1) by decide +kernel]
  · rw [if_neg h]
    by_cases h0 : d0 < 0
    · rw [if_pos h0]
    · rw [if_neg h0]
      rw [if_pos (by omega)]

/-- Digits that make a number. -/
def Good (d0 d1 d2 d3 d4 d5 d6 d7 d8 d9 d10 : Int) : Prop := (0 ≤ d10 ∧ d10 < 64) ∧ (0 ≤ d9 ∧ d9 < 64) ∧ (0 ≤ d8 ∧ d8 < 64) ∧ (0 ≤ d7 ∧ d7 < 64) ∧ (0 ≤ d6 ∧ d6 < 64) ∧ (0 ≤ d5 ∧ d5 < 64) ∧ (0 ≤ d4 ∧ d4 < 64) ∧ (0 ≤ d3 ∧ d3 < 64) ∧ (0 ≤ d2 ∧ d2 < 64) ∧ (0 ≤ d1 ∧ d1 < 64) ∧ (0 ≤ d0 ∧ d0 < 64) ∧ d10 ≤ 15
instance (d0 d1 d2 d3 d4 d5 d6 d7 d8 d9 d10 : Int) : Decidable (Good d0 d1 d2 d3 d4 d5 d6 d7 d8 d9 d10) := by unfold Good; exact inferInstance
/-- The number that they make. -/
def num (d0 d1 d2 d3 d4 d5 d6 d7 d8 d9 d10 : Int) : Int := (((((((((((0 * 64 + d10) * 64 + d9) * 64 + d8) * 64 + d7) * 64 + d6) * 64 + d5) * 64 + d4) * 64 + d3) * 64 + d2) * 64 + d1) * 64 + d0)

theorem ofDigits (k : Nat) (d0 d1 d2 d3 d4 d5 d6 d7 d8 d9 d10 : Int) : tick_Of.f (k + 12) d0 d1 d2 d3 d4 d5 d6 d7 d8 d9 d10 = some (if Good d0 d1 d2 d3 d4 d5 d6 d7 d8 d9 d10 then (num d0 d1 d2 d3 d4 d5 d6 d7 d8 d9 d10, true) else (0, false)) := by
  unfold tick_Of.f
  rw [show k + 12 = (k + 11) + 1 from rfl, of10 (x0 := by omega) (x1 := by omega)]
  by_cases h10 : 0 ≤ d10 ∧ d10 < 64
  case neg =>
    rw [if_neg h10, if_neg (fun g => h10 (by unfold Good at g; omega))]
  rw [if_pos h10]
  rw [show k + 11 = (k + 10) + 1 from rfl, of9 (x0 := by omega) (x1 := by omega)]
  by_cases h9 : 0 ≤ d9 ∧ d9 < 64
  case neg =>
    rw [if_neg h9, if_neg (fun g => h9 (by unfold Good at g; omega))]
  rw [if_pos h9]
  rw [show k + 10 = (k + 9) + 1 from rfl, of8 (x0 := by omega) (x1 := by omega)]
  by_cases h8 : 0 ≤ d8 ∧ d8 < 64
  case neg =>
    rw [if_neg h8, if_neg (fun g => h8 (by unfold Good at g; omega))]
  rw [if_pos h8]
  rw [show k + 9 = (k + 8) + 1 from rfl, of7 (x0 := by omega) (x1 := by omega)]
  by_cases h7 : 0 ≤ d7 ∧ d7 < 64
  case neg =>
    rw [if_neg h7, if_neg (fun g => h7 (by unfold Good at g; omega))]
  rw [if_pos h7]
  rw [show k + 8 = (k + 7) + 1 from rfl, of6 (x0 := by omega) (x1 := by omega)]
  by_cases h6 : 0 ≤ d6 ∧ d6 < 64
  case neg =>
    rw [if_neg h6, if_neg (fun g => h6 (by unfold Good at g; omega))]
  rw [if_pos h6]
  rw [show k + 7 = (k + 6) + 1 from rfl, of5 (x0 := by omega) (x1 := by omega)]
  by_cases h5 : 0 ≤ d5 ∧ d5 < 64
  case neg =>
    rw [if_neg h5, if_neg (fun g => h5 (by unfold Good at g; omega))]
  rw [if_pos h5]
  rw [show k + 6 = (k + 5) + 1 from rfl, of4 (x0 := by omega) (x1 := by omega)]
  by_cases h4 : 0 ≤ d4 ∧ d4 < 64
  case neg =>
    rw [if_neg h4, if_neg (fun g => h4 (by unfold Good at g; omega))]
  rw [if_pos h4]
  rw [show k + 5 = (k + 4) + 1 from rfl, of3 (x0 := by omega) (x1 := by omega)]
  by_cases h3 : 0 ≤ d3 ∧ d3 < 64
  case neg =>
    rw [if_neg h3, if_neg (fun g => h3 (by unfold Good at g; omega))]
  rw [if_pos h3]
  rw [show k + 4 = (k + 3) + 1 from rfl, of2 (x0 := by omega) (x1 := by omega)]
  by_cases h2 : 0 ≤ d2 ∧ d2 < 64
  case neg =>
    rw [if_neg h2, if_neg (fun g => h2 (by unfold Good at g; omega))]
  rw [if_pos h2]
  rw [show k + 3 = (k + 2) + 1 from rfl, of1 (x0 := by omega) (x1 := by omega)]
  by_cases h1 : 0 ≤ d1 ∧ d1 < 64
  case neg =>
    rw [if_neg h1, if_neg (fun g => h1 (by unfold Good at g; omega))]
  rw [if_pos h1]
  by_cases t : d10 ≤ 15
  case neg =>
    rw [show k + 2 = (k + 1) + 1 from rfl, tick_Of.l0, if_pos (by decide), times64_over (by omega) (by omega), Option.bind_some, if_neg (by decide), if_neg (fun g => t g.2.2.2.2.2.2.2.2.2.2.2)]
  rw [show k + 2 = (k + 1) + 1 from rfl, of0 (x0 := by omega) (x1 := by omega)]
  by_cases h0 : 0 ≤ d0 ∧ d0 < 64
  case neg =>
    rw [if_neg h0, if_neg (fun g => h0 (by unfold Good at g; omega))]
  rw [if_pos h0]
  rw [tick_Of.l0, if_neg (by decide), if_pos (by unfold Good; omega)]
  rfl

theorem good_dgs {x : Int} (h : U x) : Good (dg x 0) (dg x 1) (dg x 2) (dg x 3) (dg x 4) (dg x 5) (dg x 6) (dg x 7) (dg x 8) (dg x 9) (dg x 10) := by
  unfold U at h
  unfold Good dg
  simp only [q]
  omega
theorem num_dgs {x : Int} (h : U x) : num (dg x 0) (dg x 1) (dg x 2) (dg x 3) (dg x 4) (dg x 5) (dg x 6) (dg x 7) (dg x 8) (dg x 9) (dg x 10) = x := by
  unfold U at h
  unfold num dg
  simp only [q]
  omega

theorem U_num {d0 d1 d2 d3 d4 d5 d6 d7 d8 d9 d10 : Int} (h : Good d0 d1 d2 d3 d4 d5 d6 d7 d8 d9 d10) : U (num d0 d1 d2 d3 d4 d5 d6 d7 d8 d9 d10) := by
  unfold Good at h
  unfold U num
  omega
theorem dgs_num {d0 d1 d2 d3 d4 d5 d6 d7 d8 d9 d10 : Int} (h : Good d0 d1 d2 d3 d4 d5 d6 d7 d8 d9 d10) : dgs (num d0 d1 d2 d3 d4 d5 d6 d7 d8 d9 d10) = (d0, d1, d2, d3, d4, d5, d6, d7, d8, d9, d10) := by
  unfold Good at h
  have q0 : q 0 (num d0 d1 d2 d3 d4 d5 d6 d7 d8 d9 d10) = (((((((((((0 * 64 + d10) * 64 + d9) * 64 + d8) * 64 + d7) * 64 + d6) * 64 + d5) * 64 + d4) * 64 + d3) * 64 + d2) * 64 + d1) * 64 + d0) := rfl
  have q1 : q 1 (num d0 d1 d2 d3 d4 d5 d6 d7 d8 d9 d10) = ((((((((((0 * 64 + d10) * 64 + d9) * 64 + d8) * 64 + d7) * 64 + d6) * 64 + d5) * 64 + d4) * 64 + d3) * 64 + d2) * 64 + d1) := by rw [q, q0]; omega
  have q2 : q 2 (num d0 d1 d2 d3 d4 d5 d6 d7 d8 d9 d10) = (((((((((0 * 64 + d10) * 64 + d9) * 64 + d8) * 64 + d7) * 64 + d6) * 64 + d5) * 64 + d4) * 64 + d3) * 64 + d2) := by rw [q, q1]; omega
  have q3 : q 3 (num d0 d1 d2 d3 d4 d5 d6 d7 d8 d9 d10) = ((((((((0 * 64 + d10) * 64 + d9) * 64 + d8) * 64 + d7) * 64 + d6) * 64 + d5) * 64 + d4) * 64 + d3) := by rw [q, q2]; omega
  have q4 : q 4 (num d0 d1 d2 d3 d4 d5 d6 d7 d8 d9 d10) = (((((((0 * 64 + d10) * 64 + d9) * 64 + d8) * 64 + d7) * 64 + d6) * 64 + d5) * 64 + d4) := by rw [q, q3]; omega
  have q5 : q 5 (num d0 d1 d2 d3 d4 d5 d6 d7 d8 d9 d10) = ((((((0 * 64 + d10) * 64 + d9) * 64 + d8) * 64 + d7) * 64 + d6) * 64 + d5) := by rw [q, q4]; omega
  have q6 : q 6 (num d0 d1 d2 d3 d4 d5 d6 d7 d8 d9 d10) = (((((0 * 64 + d10) * 64 + d9) * 64 + d8) * 64 + d7) * 64 + d6) := by rw [q, q5]; omega
  have q7 : q 7 (num d0 d1 d2 d3 d4 d5 d6 d7 d8 d9 d10) = ((((0 * 64 + d10) * 64 + d9) * 64 + d8) * 64 + d7) := by rw [q, q6]; omega
  have q8 : q 8 (num d0 d1 d2 d3 d4 d5 d6 d7 d8 d9 d10) = (((0 * 64 + d10) * 64 + d9) * 64 + d8) := by rw [q, q7]; omega
  have q9 : q 9 (num d0 d1 d2 d3 d4 d5 d6 d7 d8 d9 d10) = ((0 * 64 + d10) * 64 + d9) := by rw [q, q8]; omega
  have q10 : q 10 (num d0 d1 d2 d3 d4 d5 d6 d7 d8 d9 d10) = (0 * 64 + d10) := by rw [q, q9]; omega
  unfold dgs dg
  rw [q0, q1, q2, q3, q4, q5, q6, q7, q8, q9, q10]
  have e0 : (((((((((((0 * 64 + d10) * 64 + d9) * 64 + d8) * 64 + d7) * 64 + d6) * 64 + d5) * 64 + d4) * 64 + d3) * 64 + d2) * 64 + d1) * 64 + d0) % 64 = d0 := by omega
  have e1 : ((((((((((0 * 64 + d10) * 64 + d9) * 64 + d8) * 64 + d7) * 64 + d6) * 64 + d5) * 64 + d4) * 64 + d3) * 64 + d2) * 64 + d1) % 64 = d1 := by omega
  have e2 : (((((((((0 * 64 + d10) * 64 + d9) * 64 + d8) * 64 + d7) * 64 + d6) * 64 + d5) * 64 + d4) * 64 + d3) * 64 + d2) % 64 = d2 := by omega
  have e3 : ((((((((0 * 64 + d10) * 64 + d9) * 64 + d8) * 64 + d7) * 64 + d6) * 64 + d5) * 64 + d4) * 64 + d3) % 64 = d3 := by omega
  have e4 : (((((((0 * 64 + d10) * 64 + d9) * 64 + d8) * 64 + d7) * 64 + d6) * 64 + d5) * 64 + d4) % 64 = d4 := by omega
  have e5 : ((((((0 * 64 + d10) * 64 + d9) * 64 + d8) * 64 + d7) * 64 + d6) * 64 + d5) % 64 = d5 := by omega
  have e6 : (((((0 * 64 + d10) * 64 + d9) * 64 + d8) * 64 + d7) * 64 + d6) % 64 = d6 := by omega
  have e7 : ((((0 * 64 + d10) * 64 + d9) * 64 + d8) * 64 + d7) % 64 = d7 := by omega
  have e8 : (((0 * 64 + d10) * 64 + d9) * 64 + d8) % 64 = d8 := by omega
  have e9 : ((0 * 64 + d10) * 64 + d9) % 64 = d9 := by omega
  have e10 : (0 * 64 + d10) % 64 = d10 := by omega
  rw [e0, e1, e2, e3, e4, e5, e6, e7, e8, e9, e10]

/-! ### Where two differ first -/
theorem len_le : ∀ (f x k : Nat), x < 2 ^ f → (Lib.bitLenAux f x ≤ k ↔ x < 2 ^ k)
  | 0, x, k, h => by
    have hx : x = 0 := by rw [Nat.pow_zero] at h; omega
    subst hx
    have := Nat.pow_pos (n := k) (show 0 < 2 by decide)
    unfold Lib.bitLenAux
    omega
  | f + 1, x, k, h => by
    unfold Lib.bitLenAux
    by_cases hx : x = 0
    · subst hx
      have := Nat.pow_pos (n := k) (show 0 < 2 by decide)
      rw [if_pos rfl]
      omega
    · rw [if_neg hx]
      rw [Nat.pow_succ] at h
      cases k with
      | zero => rw [Nat.pow_zero]; omega
      | succ k =>
        have := len_le f (x / 2) k (by omega)
        rw [Nat.pow_succ]
        omega
/-- k is where a and b differ first, from above. -/
def IsTop (a b k : Int) : Prop := (k = -1 ∧ a = b) ∨ (0 ≤ k ∧ k ≤ 10 ∧ q (k.toNat + 1) a = q (k.toNat + 1) b ∧ q k.toNat a ≠ q k.toNat b)
theorem q_nat (i n : Nat) : q i (n : Int) = ((n / 2 ^ (6 * i) : Nat) : Int) := by
  rw [q_eq, Nat.pow_mul, show (2 : Nat) ^ 6 = 64 from rfl]
  push_cast
  rfl
theorem xor0 (n m : Nat) : n ^^^ m = 0 ↔ n = m := by
  constructor
  · intro h
    apply Nat.eq_of_testBit_eq
    intro i
    have h2 : (n ^^^ m).testBit i = false := by rw [h, Nat.zero_testBit]
    rw [Nat.testBit_xor] at h2
    revert h2
    cases n.testBit i <;> cases m.testBit i <;> decide
  · rintro rfl
    exact Nat.xor_self _
theorem top {a b : Int} (ha : U a) (hb : U b) : ∃ k, tick_Top.f a b = some k ∧ IsTop a b k := by
  unfold tick_Top.f
  by_cases he : a = b
  · rw [if_pos he]
    exact ⟨_, rfl, .inl ⟨rfl, he⟩⟩
  unfold U at ha hb
  obtain ⟨n, rfl⟩ := Int.eq_ofNat_of_zero_le ha.1
  obtain ⟨m, rfl⟩ := Int.eq_ofNat_of_zero_le hb.1
  have hlt : n ^^^ m < 2 ^ 64 := Nat.xor_lt_two_pow (by rw [show (2 : Nat) ^ 64 = 18446744073709551616 by decide]; omega) (by rw [show (2 : Nat) ^ 64 = 18446744073709551616 by decide]; omega)
  have hne : n ^^^ m ≠ 0 := fun h => he (by rw [(xor0 _ _).1 h])
  have hb' : Go.bits .xor .u64 (n : Int) (m : Int) = ((n ^^^ m : Nat) : Int) := by
    rw [u64_xor _ _ ha.1 ha.2 hb.1 hb.2, Int.toNat_natCast, Int.toNat_natCast]
  have le1 := fun k => len_le 64 (n ^^^ m) k hlt
  have le2 : Lib.bitLenAux 64 (n ^^^ m) ≤ 64 := (le1 64).2 hlt
  have le0 : ¬ Lib.bitLenAux 64 (n ^^^ m) ≤ 0 := fun h => hne (by have := (le1 0).1 h; rw [Nat.pow_zero] at this; omega)
  have xd : ∀ i, (n ^^^ m) / 2 ^ i = n / 2 ^ i ^^^ m / 2 ^ i := fun i => by rw [← Nat.shiftRight_eq_div_pow, ← Nat.shiftRight_eq_div_pow, ← Nat.shiftRight_eq_div_pow, Nat.shiftRight_xor_distrib]
  have xd' : ∀ i, (n ^^^ m) < 2 ^ i ↔ n / 2 ^ i = m / 2 ^ i := fun i => by
    rw [← xor0, ← xd, Nat.div_eq_zero_iff_lt (Nat.pow_pos (by decide))]
  rw [show (2 : Nat) ^ 64 = 18446744073709551616 by decide] at hlt
  unfold bits_Len64.f
  rw [if_neg he, hb', if_pos (Int.natCast_nonneg _), if_pos (by omega), Int.toNat_natCast, Option.bind_some]
  unfold Lib.bitLen
  obtain ⟨L, hL⟩ : ∃ L, Lib.bitLenAux 64 (n ^^^ m) = L := ⟨_, rfl⟩
  rw [hL] at le0 le2 ⊢
  obtain ⟨k, hk⟩ : ∃ k, (L - 1) / 6 = k := ⟨_, rfl⟩
  have w1 : wrap64 (Int.tdiv (wrap64 ((L : Int) - 1)) 6) = (k : Int) := by
    rw [show wrap64 ((L : Int) - 1) = L - 1 by unfold wrap64; omega, Int.tdiv_eq_ediv_of_nonneg (by omega)]
    unfold wrap64
    omega
  rw [w1]
  refine ⟨_, rfl, .inr ⟨by omega, by omega, ?_, ?_⟩⟩
  · rw [Int.toNat_natCast, q_nat, q_nat, (xd' (6 * (k + 1))).1 ((le1 _).1 (by omega))]
  · rw [Int.toNat_natCast, q_nat, q_nat]
    intro h
    have := (le1 (6 * k)).2 ((xd' (6 * k)).2 (by exact Int.ofNat_inj.1 h))
    omega
theorem q_up {a b : Int} {i : Nat} (h : q i a = q i b) : ∀ (d : Nat), q (i + d) a = q (i + d) b
  | 0 => h
  | d + 1 => by show q (i + d) a / 64 = q (i + d) b / 64; rw [q_up h d]
theorem q_down {a b : Int} {i : Nat} (h : q (i + 1) a = q (i + 1) b) (hd : dg a i = dg b i) : q i a = q i b := by
  have h' : q i a / 64 = q i b / 64 := h
  unfold dg at hd
  omega
theorem IsTop.unique {a b k l : Int} (h : IsTop a b k) (g : IsTop a b l) : k = l := by
  have no : ∀ {i : Nat}, a = b → q i a ≠ q i b → False := fun e hn => hn (by rw [e])
  rcases h with ⟨rfl, h⟩ | ⟨h0, h1, h2, h3⟩
  · rcases g with ⟨rfl, g⟩ | ⟨g0, g1, g2, g3⟩
    · rfl
    · exact (no h g3).elim
  · rcases g with ⟨rfl, g⟩ | ⟨g0, g1, g2, g3⟩
    · exact (no g h3).elim
    · rcases Int.lt_trichotomy k l with hlt | he | hlt
      · have := q_up h2 (l.toNat - (k.toNat + 1))
        rw [show k.toNat + 1 + (l.toNat - (k.toNat + 1)) = l.toNat by omega] at this
        exact (g3 this).elim
      · exact he
      · have := q_up g2 (k.toNat - (l.toNat + 1))
        rw [show l.toNat + 1 + (k.toNat - (l.toNat + 1)) = k.toNat by omega] at this
        exact (h3 this).elim
theorem q11 {a : Int} (h : U a) : q 11 a = 0 := by
  unfold U at h
  simp only [q]
  omega

theorem wakes (k : Nat) : remontoirlaw01_wakes.f (k + 12) = some true := by
  obtain ⟨t, t1, t2⟩ := top (a := 130) (b := 129) (by unfold U; omega) (by unfold U; omega)
  have ht : t = 0 := by
    refine t2.unique (.inr ⟨by decide, by decide, ?_, ?_⟩)
    · decide +kernel
    · decide +kernel
  subst ht
  unfold remontoirlaw01_wakes.f
  rw [digits (by unfold U; omega), sum (by unfold U; omega) (by unfold U; omega), mul (by unfold U; omega) (by unfold U; omega), t1]
  simp only [Option.bind_some]
  rw [if_pos (by decide +kernel), if_pos (by decide +kernel), if_pos (by decide +kernel), if_pos True.intro, if_pos (by decide), if_neg (by decide), if_pos (by decide)]
  decide +kernel
end Go.Proofs.Ytfkknipkfcmiaaa.Core

