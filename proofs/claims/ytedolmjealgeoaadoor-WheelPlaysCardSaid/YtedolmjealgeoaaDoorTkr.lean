/- Numbers to the base of 64, plain: what the printed Top, Digits, Sum of the reference tell. Conditions: numbers of 64 bits. -/
import Derived.Test.YtedolmjealgeoaaDoorGe
import Derived.Test.YtedolmjealgeoaaDoorPBasex6
namespace Go.Proofs.YtedolmjealgeoaaDoor.Tk
open Go.RowKit Go.Proofs.YtedolmjealgeoaaDoor.PBase Go.Proofs.YtedolmjealgeoaaDoor.Gv Go.Proofs.YtedolmjealgeoaaDoorW.PrintWords Go.Proofs.YtedolmjealgeoaaDoorW.PrintLast Go.Proofs.YtedolmjealgeoaaDoorW.PrintMore
set_option linter.unusedVariables false
theorem rheld {a b : Int} (ha : U a) (hb : U b) : remontoirref01_Held.f a b = some (if a + b < 18446744073709551616 then a + b else 18446744073709551615) := by
  unfold remontoirref01_Held.f
  rw [rsum ha hb, Option.bind_some]
  by_cases h : a + b < 18446744073709551616
  · rw [if_pos h, if_pos h, if_pos rfl]
  · rw [if_neg h, if_neg h, if_neg (by decide)]
theorem rstep0 (k : Nat) (x d0 d1 d2 d3 d4 d5 d6 d7 d8 d9 d10 : Int) (hx : U x) : remontoirref01_Digits.l0 (k + 1) x 0 d0 d1 d2 d3 d4 d5 d6 d7 d8 d9 d10 = remontoirref01_Digits.l0 k (x / 64) 1 (x % 64) d1 d2 d3 d4 d5 d6 d7 d8 d9 d10 := by
  rw [remontoirref01_Digits.l0, if_pos (by decide), if_pos rfl, wq hx, wm hx, show wrap64 ((0 : Int) + 1) = 1 by decide +kernel]
theorem rstep1 (k : Nat) (x d0 d1 d2 d3 d4 d5 d6 d7 d8 d9 d10 : Int) (hx : U x) : remontoirref01_Digits.l0 (k + 1) x 1 d0 d1 d2 d3 d4 d5 d6 d7 d8 d9 d10 = remontoirref01_Digits.l0 k (x / 64) 2 d0 (x % 64) d2 d3 d4 d5 d6 d7 d8 d9 d10 := by
  rw [remontoirref01_Digits.l0, if_pos (by decide), if_neg (by decide), if_pos rfl, wq hx, wm hx, show wrap64 ((1 : Int) + 1) = 2 by decide +kernel]
theorem rstep2 (k : Nat) (x d0 d1 d2 d3 d4 d5 d6 d7 d8 d9 d10 : Int) (hx : U x) : remontoirref01_Digits.l0 (k + 1) x 2 d0 d1 d2 d3 d4 d5 d6 d7 d8 d9 d10 = remontoirref01_Digits.l0 k (x / 64) 3 d0 d1 (x % 64) d3 d4 d5 d6 d7 d8 d9 d10 := by
  rw [remontoirref01_Digits.l0, if_pos (by decide), if_neg (by decide), if_neg (by decide), if_pos rfl, wq hx, wm hx, show wrap64 ((2 : Int) + 1) = 3 by decide +kernel]
theorem rstep3 (k : Nat) (x d0 d1 d2 d3 d4 d5 d6 d7 d8 d9 d10 : Int) (hx : U x) : remontoirref01_Digits.l0 (k + 1) x 3 d0 d1 d2 d3 d4 d5 d6 d7 d8 d9 d10 = remontoirref01_Digits.l0 k (x / 64) 4 d0 d1 d2 (x % 64) d4 d5 d6 d7 d8 d9 d10 := by
  rw [remontoirref01_Digits.l0, if_pos (by decide), if_neg (by decide), if_neg (by decide), if_neg (by decide), if_pos rfl, wq hx, wm hx, show wrap64 ((3 : Int) + 1) = 4 by decide +kernel]
theorem rstep4 (k : Nat) (x d0 d1 d2 d3 d4 d5 d6 d7 d8 d9 d10 : Int) (hx : U x) : remontoirref01_Digits.l0 (k + 1) x 4 d0 d1 d2 d3 d4 d5 d6 d7 d8 d9 d10 = remontoirref01_Digits.l0 k (x / 64) 5 d0 d1 d2 d3 (x % 64) d5 d6 d7 d8 d9 d10 := by
  rw [remontoirref01_Digits.l0, if_pos (by decide), if_neg (by decide), if_neg (by decide), if_neg (by decide), if_neg (by decide), if_pos rfl, wq hx, wm hx, show wrap64 ((4 : Int) + 1) = 5 by decide +kernel]
theorem rstep5 (k : Nat) (x d0 d1 d2 d3 d4 d5 d6 d7 d8 d9 d10 : Int) (hx : U x) : remontoirref01_Digits.l0 (k + 1) x 5 d0 d1 d2 d3 d4 d5 d6 d7 d8 d9 d10 = remontoirref01_Digits.l0 k (x / 64) 6 d0 d1 d2 d3 d4 (x % 64) d6 d7 d8 d9 d10 := by
  rw [remontoirref01_Digits.l0, if_pos (by decide), if_neg (by decide), if_neg (by decide), if_neg (by decide), if_neg (by decide), if_neg (by decide), if_pos rfl, wq hx, wm hx, show wrap64 ((5 : Int) + 1) = 6 by decide +kernel]
theorem rstep6 (k : Nat) (x d0 d1 d2 d3 d4 d5 d6 d7 d8 d9 d10 : Int) (hx : U x) : remontoirref01_Digits.l0 (k + 1) x 6 d0 d1 d2 d3 d4 d5 d6 d7 d8 d9 d10 = remontoirref01_Digits.l0 k (x / 64) 7 d0 d1 d2 d3 d4 d5 (x % 64) d7 d8 d9 d10 := by
  rw [remontoirref01_Digits.l0, if_pos (by decide), if_neg (by decide), if_neg (by decide), if_neg (by decide), if_neg (by decide), if_neg (by decide), if_neg (by decide), if_pos rfl, wq hx, wm hx, show wrap64 ((6 : Int) + 1) = 7 by decide +kernel]
theorem rstep7 (k : Nat) (x d0 d1 d2 d3 d4 d5 d6 d7 d8 d9 d10 : Int) (hx : U x) : remontoirref01_Digits.l0 (k + 1) x 7 d0 d1 d2 d3 d4 d5 d6 d7 d8 d9 d10 = remontoirref01_Digits.l0 k (x / 64) 8 d0 d1 d2 d3 d4 d5 d6 (x % 64) d8 d9 d10 := by
  rw [remontoirref01_Digits.l0, if_pos (by decide), if_neg (by decide), if_neg (by decide), if_neg (by decide), if_neg (by decide), if_neg (by decide), if_neg (by decide), if_neg (by decide), if_pos rfl, wq hx, wm hx, show wrap64 ((7 : Int) + 1) = 8 by decide +kernel]
theorem rstep8 (k : Nat) (x d0 d1 d2 d3 d4 d5 d6 d7 d8 d9 d10 : Int) (hx : U x) : remontoirref01_Digits.l0 (k + 1) x 8 d0 d1 d2 d3 d4 d5 d6 d7 d8 d9 d10 = remontoirref01_Digits.l0 k (x / 64) 9 d0 d1 d2 d3 d4 d5 d6 d7 (x % 64) d9 d10 := by
  rw [remontoirref01_Digits.l0, if_pos (by decide), if_neg (by decide), if_neg (by decide), if_neg (by decide), if_neg (by decide), if_neg (by decide), if_neg (by decide), if_neg (by decide), if_neg (by decide), if_pos rfl, wq hx, wm hx, show wrap64 ((8 : Int) + 1) = 9 by decide +kernel]
theorem rstep9 (k : Nat) (x d0 d1 d2 d3 d4 d5 d6 d7 d8 d9 d10 : Int) (hx : U x) : remontoirref01_Digits.l0 (k + 1) x 9 d0 d1 d2 d3 d4 d5 d6 d7 d8 d9 d10 = remontoirref01_Digits.l0 k (x / 64) 10 d0 d1 d2 d3 d4 d5 d6 d7 d8 (x % 64) d10 := by
  rw [remontoirref01_Digits.l0, if_pos (by decide), if_neg (by decide), if_neg (by decide), if_neg (by decide), if_neg (by decide), if_neg (by decide), if_neg (by decide), if_neg (by decide), if_neg (by decide), if_neg (by decide), if_pos rfl, wq hx, wm hx, show wrap64 ((9 : Int) + 1) = 10 by decide +kernel]
theorem rstep10 (k : Nat) (x d0 d1 d2 d3 d4 d5 d6 d7 d8 d9 d10 : Int) (hx : U x) : remontoirref01_Digits.l0 (k + 1) x 10 d0 d1 d2 d3 d4 d5 d6 d7 d8 d9 d10 = remontoirref01_Digits.l0 k (x / 64) 11 d0 d1 d2 d3 d4 d5 d6 d7 d8 d9 (x % 64) := by
  rw [remontoirref01_Digits.l0, if_pos (by decide), if_neg (by decide), if_neg (by decide), if_neg (by decide), if_neg (by decide), if_neg (by decide), if_neg (by decide), if_neg (by decide), if_neg (by decide), if_neg (by decide), if_neg (by decide), if_pos rfl, wq hx, wm hx, show wrap64 ((10 : Int) + 1) = 11 by decide +kernel]
theorem rdigits {x : Int} (hx : U x) (k : Nat) : remontoirref01_Digits.f (k + 12) x = some (dgs x) := by
  have u1 := U_q hx
  have u2 := U_q u1
  have u3 := U_q u2
  have u4 := U_q u3
  have u5 := U_q u4
  have u6 := U_q u5
  have u7 := U_q u6
  have u8 := U_q u7
  have u9 := U_q u8
  have u10 := U_q u9
  have u11 := U_q u10
  unfold remontoirref01_Digits.f
  rw [show k + 12 = k + 11 + 1 from rfl, rstep0 _ _ _ _ _ _ _ _ _ _ _ _ _ hx, show k + 11 = k + 10 + 1 from rfl, rstep1 _ _ _ _ _ _ _ _ _ _ _ _ _ u1, show k + 10 = k + 9 + 1 from rfl, rstep2 _ _ _ _ _ _ _ _ _ _ _ _ _ u2, show k + 9 = k + 8 + 1 from rfl, rstep3 _ _ _ _ _ _ _ _ _ _ _ _ _ u3, show k + 8 = k + 7 + 1 from rfl, rstep4 _ _ _ _ _ _ _ _ _ _ _ _ _ u4, show k + 7 = k + 6 + 1 from rfl, rstep5 _ _ _ _ _ _ _ _ _ _ _ _ _ u5, show k + 6 = k + 5 + 1 from rfl, rstep6 _ _ _ _ _ _ _ _ _ _ _ _ _ u6, show k + 5 = k + 4 + 1 from rfl, rstep7 _ _ _ _ _ _ _ _ _ _ _ _ _ u7, show k + 4 = k + 3 + 1 from rfl, rstep8 _ _ _ _ _ _ _ _ _ _ _ _ _ u8, show k + 3 = k + 2 + 1 from rfl, rstep9 _ _ _ _ _ _ _ _ _ _ _ _ _ u9, show k + 2 = k + 1 + 1 from rfl, rstep10 _ _ _ _ _ _ _ _ _ _ _ _ _ u10, remontoirref01_Digits.l0, if_neg (by decide)]
  rfl
theorem rtop10 (k : Nat) (d0 d1 d2 d3 d4 d5 d6 d7 d8 d9 d10 e0 e1 e2 e3 e4 e5 e6 e7 e8 e9 e10 : Int) : remontoirref01_Top.l0 (k + 1) 10 d0 d1 d2 d3 d4 d5 d6 d7 d8 d9 d10 e0 e1 e2 e3 e4 e5 e6 e7 e8 e9 e10 = if d10 = e10 then remontoirref01_Top.l0 k 9 d0 d1 d2 d3 d4 d5 d6 d7 d8 d9 d10 e0 e1 e2 e3 e4 e5 e6 e7 e8 e9 e10 else some 10 := by
  rw [remontoirref01_Top.l0, if_pos (by decide), if_neg (by decide), if_neg (by decide), if_neg (by decide), if_neg (by decide), if_neg (by decide), if_neg (by decide), if_neg (by decide), if_neg (by decide), if_neg (by decide), if_neg (by decide), if_pos rfl, show wrap64 ((10 : Int) - 1) = 9 by decide +kernel]
theorem rtop9 (k : Nat) (d0 d1 d2 d3 d4 d5 d6 d7 d8 d9 d10 e0 e1 e2 e3 e4 e5 e6 e7 e8 e9 e10 : Int) : remontoirref01_Top.l0 (k + 1) 9 d0 d1 d2 d3 d4 d5 d6 d7 d8 d9 d10 e0 e1 e2 e3 e4 e5 e6 e7 e8 e9 e10 = if d9 = e9 then remontoirref01_Top.l0 k 8 d0 d1 d2 d3 d4 d5 d6 d7 d8 d9 d10 e0 e1 e2 e3 e4 e5 e6 e7 e8 e9 e10 else some 9 := by
  rw [remontoirref01_Top.l0, if_pos (by decide), if_neg (by decide), if_neg (by decide), if_neg (by decide), if_neg (by decide), if_neg (by decide), if_neg (by decide), if_neg (by decide), if_neg (by decide), if_neg (by decide), if_pos rfl, show wrap64 ((9 : Int) - 1) = 8 by decide +kernel]
theorem rtop8 (k : Nat) (d0 d1 d2 d3 d4 d5 d6 d7 d8 d9 d10 e0 e1 e2 e3 e4 e5 e6 e7 e8 e9 e10 : Int) : remontoirref01_Top.l0 (k + 1) 8 d0 d1 d2 d3 d4 d5 d6 d7 d8 d9 d10 e0 e1 e2 e3 e4 e5 e6 e7 e8 e9 e10 = if d8 = e8 then remontoirref01_Top.l0 k 7 d0 d1 d2 d3 d4 d5 d6 d7 d8 d9 d10 e0 e1 e2 e3 e4 e5 e6 e7 e8 e9 e10 else some 8 := by
  rw [remontoirref01_Top.l0, if_pos (by decide), if_neg (by decide), if_neg (by decide), if_neg (by decide), if_neg (by decide), if_neg (by decide), if_neg (by decide), if_neg (by decide), if_neg (by decide), if_pos rfl, show wrap64 ((8 : Int) - 1) = 7 by decide +kernel]
theorem rtop7 (k : Nat) (d0 d1 d2 d3 d4 d5 d6 d7 d8 d9 d10 e0 e1 e2 e3 e4 e5 e6 e7 e8 e9 e10 : Int) : remontoirref01_Top.l0 (k + 1) 7 d0 d1 d2 d3 d4 d5 d6 d7 d8 d9 d10 e0 e1 e2 e3 e4 e5 e6 e7 e8 e9 e10 = if d7 = e7 then remontoirref01_Top.l0 k 6 d0 d1 d2 d3 d4 d5 d6 d7 d8 d9 d10 e0 e1 e2 e3 e4 e5 e6 e7 e8 e9 e10 else some 7 := by
  rw [remontoirref01_Top.l0, if_pos (by decide), if_neg (by decide), if_neg (by decide), if_neg (by decide), if_neg (by decide), if_neg (by decide), if_neg (by decide), if_neg (by decide), if_pos rfl, show wrap64 ((7 : Int) - 1) = 6 by decide +kernel]
theorem rtop6 (k : Nat) (d0 d1 d2 d3 d4 d5 d6 d7 d8 d9 d10 e0 e1 e2 e3 e4 e5 e6 e7 e8 e9 e10 : Int) : remontoirref01_Top.l0 (k + 1) 6 d0 d1 d2 d3 d4 d5 d6 d7 d8 d9 d10 e0 e1 e2 e3 e4 e5 e6 e7 e8 e9 e10 = if d6 = e6 then remontoirref01_Top.l0 k 5 d0 d1 d2 d3 d4 d5 d6 d7 d8 d9 d10 e0 e1 e2 e3 e4 e5 e6 e7 e8 e9 e10 else some 6 := by
  rw [remontoirref01_Top.l0, if_pos (by decide), if_neg (by decide), if_neg (by decide), if_neg (by decide), if_neg (by decide), if_neg (by decide), if_neg (by decide), if_pos rfl, show wrap64 ((6 : Int) - 1) = 5 by decide +kernel]
theorem rtop5 (k : Nat) (d0 d1 d2 d3 d4 d5 d6 d7 d8 d9 d10 e0 e1 e2 e3 e4 e5 e6 e7 e8 e9 e10 : Int) : remontoirref01_Top.l0 (k + 1) 5 d0 d1 d2 d3 d4 d5 d6 d7 d8 d9 d10 e0 e1 e2 e3 e4 e5 e6 e7 e8 e9 e10 = if d5 = e5 then remontoirref01_Top.l0 k 4 d0 d1 d2 d3 d4 d5 d6 d7 d8 d9 d10 e0 e1 e2 e3 e4 e5 e6 e7 e8 e9 e10 else some 5 := by
  rw [remontoirref01_Top.l0, if_pos (by decide), if_neg (by decide), if_neg (by decide), if_neg (by decide), if_neg (by decide), if_neg (by decide), if_pos rfl, show wrap64 ((5 : Int) - 1) = 4 by decide +kernel]
theorem rtop4 (k : Nat) (d0 d1 d2 d3 d4 d5 d6 d7 d8 d9 d10 e0 e1 e2 e3 e4 e5 e6 e7 e8 e9 e10 : Int) : remontoirref01_Top.l0 (k + 1) 4 d0 d1 d2 d3 d4 d5 d6 d7 d8 d9 d10 e0 e1 e2 e3 e4 e5 e6 e7 e8 e9 e10 = if d4 = e4 then remontoirref01_Top.l0 k 3 d0 d1 d2 d3 d4 d5 d6 d7 d8 d9 d10 e0 e1 e2 e3 e4 e5 e6 e7 e8 e9 e10 else some 4 := by
  rw [remontoirref01_Top.l0, if_pos (by decide), if_neg (by decide), if_neg (by decide), if_neg (by decide), if_neg (by decide), if_pos rfl, show wrap64 ((4 : Int) - 1) = 3 by decide +kernel]
theorem rtop3 (k : Nat) (d0 d1 d2 d3 d4 d5 d6 d7 d8 d9 d10 e0 e1 e2 e3 e4 e5 e6 e7 e8 e9 e10 : Int) : remontoirref01_Top.l0 (k + 1) 3 d0 d1 d2 d3 d4 d5 d6 d7 d8 d9 d10 e0 e1 e2 e3 e4 e5 e6 e7 e8 e9 e10 = if d3 = e3 then remontoirref01_Top.l0 k 2 d0 d1 d2 d3 d4 d5 d6 d7 d8 d9 d10 e0 e1 e2 e3 e4 e5 e6 e7 e8 e9 e10 else some 3 := by
  rw [remontoirref01_Top.l0, if_pos (by decide), if_neg (by decide), if_neg (by decide), if_neg (by decide), if_pos rfl, show wrap64 ((3 : Int) - 1) = 2 by decide +kernel]
theorem rtop2 (k : Nat) (d0 d1 d2 d3 d4 d5 d6 d7 d8 d9 d10 e0 e1 e2 e3 e4 e5 e6 e7 e8 e9 e10 : Int) : remontoirref01_Top.l0 (k + 1) 2 d0 d1 d2 d3 d4 d5 d6 d7 d8 d9 d10 e0 e1 e2 e3 e4 e5 e6 e7 e8 e9 e10 = if d2 = e2 then remontoirref01_Top.l0 k 1 d0 d1 d2 d3 d4 d5 d6 d7 d8 d9 d10 e0 e1 e2 e3 e4 e5 e6 e7 e8 e9 e10 else some 2 := by
  rw [remontoirref01_Top.l0, if_pos (by decide), if_neg (by decide), if_neg (by decide), if_pos rfl, show wrap64 ((2 : Int) - 1) = 1 by decide +kernel]
theorem rtop1 (k : Nat) (d0 d1 d2 d3 d4 d5 d6 d7 d8 d9 d10 e0 e1 e2 e3 e4 e5 e6 e7 e8 e9 e10 : Int) : remontoirref01_Top.l0 (k + 1) 1 d0 d1 d2 d3 d4 d5 d6 d7 d8 d9 d10 e0 e1 e2 e3 e4 e5 e6 e7 e8 e9 e10 = if d1 = e1 then remontoirref01_Top.l0 k 0 d0 d1 d2 d3 d4 d5 d6 d7 d8 d9 d10 e0 e1 e2 e3 e4 e5 e6 e7 e8 e9 e10 else some 1 := by
  rw [remontoirref01_Top.l0, if_pos (by decide), if_neg (by decide), if_pos rfl, show wrap64 ((1 : Int) - 1) = 0 by decide +kernel]
theorem rtop0 (k : Nat) (d0 d1 d2 d3 d4 d5 d6 d7 d8 d9 d10 e0 e1 e2 e3 e4 e5 e6 e7 e8 e9 e10 : Int) : remontoirref01_Top.l0 (k + 1) 0 d0 d1 d2 d3 d4 d5 d6 d7 d8 d9 d10 e0 e1 e2 e3 e4 e5 e6 e7 e8 e9 e10 = if d0 = e0 then remontoirref01_Top.l0 k (-1) d0 d1 d2 d3 d4 d5 d6 d7 d8 d9 d10 e0 e1 e2 e3 e4 e5 e6 e7 e8 e9 e10 else some 0 := by
  rw [remontoirref01_Top.l0, if_pos (by decide), if_pos rfl, show wrap64 ((0 : Int) - 1) = (-1) by decide +kernel]
theorem rtop {a b : Int} (ha : U a) (hb : U b) (k : Nat) : ∃ r, remontoirref01_Top.f (k + 12) a b = some r ∧ IsTop a b r := by
  unfold remontoirref01_Top.f
  rw [rdigits ha, rdigits hb, Option.bind_some, Option.bind_some]
  have Q11 : q 11 a = q 11 b := by rw [q11 ha, q11 hb]
  show ∃ r, remontoirref01_Top.l0 (k + 12) 10 (dg a 0) (dg a 1) (dg a 2) (dg a 3) (dg a 4) (dg a 5) (dg a 6) (dg a 7) (dg a 8) (dg a 9) (dg a 10) (dg b 0) (dg b 1) (dg b 2) (dg b 3) (dg b 4) (dg b 5) (dg b 6) (dg b 7) (dg b 8) (dg b 9) (dg b 10) = some r ∧ IsTop a b r
  rw [show k + 12 = (k + 11) + 1 from rfl, rtop10]
  by_cases h10 : dg a 10 = dg b 10
  case neg =>
    rw [if_neg h10]
    exact ⟨_, rfl, .inr ⟨by decide, by decide, Q11, fun h => h10 (by unfold dg; rw [show q 10 a = q 10 b from h])⟩⟩
  rw [if_pos h10]
  have Q10 := q_down Q11 h10
  rw [show k + 11 = (k + 10) + 1 from rfl, rtop9]
  by_cases h9 : dg a 9 = dg b 9
  case neg =>
    rw [if_neg h9]
    exact ⟨_, rfl, .inr ⟨by decide, by decide, Q10, fun h => h9 (by unfold dg; rw [show q 9 a = q 9 b from h])⟩⟩
  rw [if_pos h9]
  have Q9 := q_down Q10 h9
  rw [show k + 10 = (k + 9) + 1 from rfl, rtop8]
  by_cases h8 : dg a 8 = dg b 8
  case neg =>
    rw [if_neg h8]
    exact ⟨_, rfl, .inr ⟨by decide, by decide, Q9, fun h => h8 (by unfold dg; rw [show q 8 a = q 8 b from h])⟩⟩
  rw [if_pos h8]
  have Q8 := q_down Q9 h8
  rw [show k + 9 = (k + 8) + 1 from rfl, rtop7]
  by_cases h7 : dg a 7 = dg b 7
  case neg =>
    rw [if_neg h7]
    exact ⟨_, rfl, .inr ⟨by decide, by decide, Q8, fun h => h7 (by unfold dg; rw [show q 7 a = q 7 b from h])⟩⟩
  rw [if_pos h7]
  have Q7 := q_down Q8 h7
  rw [show k + 8 = (k + 7) + 1 from rfl, rtop6]
  by_cases h6 : dg a 6 = dg b 6
  case neg =>
    rw [if_neg h6]
    exact ⟨_, rfl, .inr ⟨by decide, by decide, Q7, fun h => h6 (by unfold dg; rw [show q 6 a = q 6 b from h])⟩⟩
  rw [if_pos h6]
  have Q6 := q_down Q7 h6
  rw [show k + 7 = (k + 6) + 1 from rfl, rtop5]
  by_cases h5 : dg a 5 = dg b 5
  case neg =>
    rw [if_neg h5]
    exact ⟨_, rfl, .inr ⟨by decide, by decide, Q6, fun h => h5 (by unfold dg; rw [show q 5 a = q 5 b from h])⟩⟩
  rw [if_pos h5]
  have Q5 := q_down Q6 h5
  rw [show k + 6 = (k + 5) + 1 from rfl, rtop4]
  by_cases h4 : dg a 4 = dg b 4
  case neg =>
    rw [if_neg h4]
    exact ⟨_, rfl, .inr ⟨by decide, by decide, Q5, fun h => h4 (by unfold dg; rw [show q 4 a = q 4 b from h])⟩⟩
  rw [if_pos h4]
  have Q4 := q_down Q5 h4
  rw [show k + 5 = (k + 4) + 1 from rfl, rtop3]
  by_cases h3 : dg a 3 = dg b 3
  case neg =>
    rw [if_neg h3]
    exact ⟨_, rfl, .inr ⟨by decide, by decide, Q4, fun h => h3 (by unfold dg; rw [show q 3 a = q 3 b from h])⟩⟩
  rw [if_pos h3]
  have Q3 := q_down Q4 h3
  rw [show k + 4 = (k + 3) + 1 from rfl, rtop2]
  by_cases h2 : dg a 2 = dg b 2
  case neg =>
    rw [if_neg h2]
    exact ⟨_, rfl, .inr ⟨by decide, by decide, Q3, fun h => h2 (by unfold dg; rw [show q 2 a = q 2 b from h])⟩⟩
  rw [if_pos h2]
  have Q2 := q_down Q3 h2
  rw [show k + 3 = (k + 2) + 1 from rfl, rtop1]
  by_cases h1 : dg a 1 = dg b 1
  case neg =>
    rw [if_neg h1]
    exact ⟨_, rfl, .inr ⟨by decide, by decide, Q2, fun h => h1 (by unfold dg; rw [show q 1 a = q 1 b from h])⟩⟩
  rw [if_pos h1]
  have Q1 := q_down Q2 h1
  rw [show k + 2 = (k + 1) + 1 from rfl, rtop0]
  by_cases h0 : dg a 0 = dg b 0
  case neg =>
    rw [if_neg h0]
    exact ⟨_, rfl, .inr ⟨by decide, by decide, Q1, fun h => h0 (by unfold dg; rw [show q 0 a = q 0 b from h])⟩⟩
  rw [if_pos h0]
  have Q0 := q_down Q1 h0
  rw [remontoirref01_Top.l0, if_neg (by decide)]
  exact ⟨_, rfl, .inl ⟨rfl, Q0⟩⟩

end Go.Proofs.YtedolmjealgeoaaDoor.Tk
