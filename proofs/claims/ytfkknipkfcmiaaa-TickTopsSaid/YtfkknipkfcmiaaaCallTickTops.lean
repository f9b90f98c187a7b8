/- TickTops: where two numbers differ first, from above; then as a call. Conditions: none. -/
import Derived.Test.YtfkknipkfcmiaaaCore
import Derived.Test.YtfkknipkfcmiaaaPBig2
import Derived.OpenShut
namespace Go.Proofs.Ytfkknipkfcmiaaa.CallTickTops
open Go.RowKit Go.Proofs.Ytfkknipkfcmiaaa.PAll Go.Proofs.Ytfkknipkfcmiaaa.Add Go.Proofs.YtfkknipkfcmiaaaW.PrintWords Go.Proofs.YtfkknipkfcmiaaaW.PrintLast Go.Proofs.YtfkknipkfcmiaaaW.PrintMore Go.Proofs.Ytfkknipkfcmiaaa.Core

theorem q_lt {a b : Int} (h : a ≤ b) : ∀ i, q i a ≤ q i b
  | 0 => h
  | i + 1 => Int.ediv_le_ediv (by decide) (q_lt h i)
theorem digs {a b : Int} {i : Nat} (h : q i a = q i b) {j : Nat} (hj : i ≤ j) : dg a j = dg b j := by
  have := q_up h (j - i)
  rw [show i + (j - i) = j by omega] at this
  unfold dg
  rw [this]

theorem step0 (k : Nat) (a b t d0 d1 d2 d3 d4 d5 d6 d7 d8 d9 d10 e0 e1 e2 e3 e4 e5 e6 e7 e8 e9 e10 : Int) (h : d0 = e0) : remontoirlaw01_TickTops.l0 (k + 1) a b t 0 d0 d1 d2 d3 d4 d5 d6 d7 d8 d9 d10 e0 e1 e2 e3 e4 e5 e6 e7 e8 e9 e10 = remontoirlaw01_TickTops.l0 k a b t 1 d0 d1 d2 d3 d4 d5 d6 d7 d8 d9 d10 e0 e1 e2 e3 e4 e5 e6 e7 e8 e9 e10 := by
  rw [remontoirlaw01_TickTops.l0, if_pos (by decide), if_pos rfl, if_pos h, show wrap64 ((0 : Int) + 1) = 1 by decide +kernel]

theorem step1 (k : Nat) (a b t d0 d1 d2 d3 d4 d5 d6 d7 d8 d9 d10 e0 e1 e2 e3 e4 e5 e6 e7 e8 e9 e10 : Int) (h : d1 = e1) : remontoirlaw01_TickTops.l0 (k + 1) a b t 1 d0 d1 d2 d3 d4 d5 d6 d7 d8 d9 d10 e0 e1 e2 e3 e4 e5 e6 e7 e8 e9 e10 = remontoirlaw01_TickTops.l0 k a b t 2 d0 d1 d2 d3 d4 d5 d6 d7 d8 d9 d10 e0 e1 e2 e3 e4 e5 e6 e7 e8 e9 e10 := by
  rw [remontoirlaw01_TickTops.l0, if_pos (by decide), if_neg (by decide), if_pos rfl, if_pos h, show wrap64 ((1 : Int) + 1) = 2 by decide +kernel]

theorem step2 (k : Nat) (a b t d0 d1 d2 d3 d4 d5 d6 d7 d8 d9 d10 e0 e1 e2 e3 e4 e5 e6 e7 e8 e9 e10 : Int) (h : d2 = e2) : remontoirlaw01_TickTops.l0 (k + 1) a b t 2 d0 d1 d2 d3 d4 d5 d6 d7 d8 d9 d10 e0 e1 e2 e3 e4 e5 e6 e7 e8 e9 e10 = remontoirlaw01_TickTops.l0 k a b t 3 d0 d1 d2 d3 d4 d5 d6 d7 d8 d9 d10 e0 e1 e2 e3 e4 e5 e6 e7 e8 e9 e10 := by
  rw [remontoirlaw01_TickTops.l0, if_pos (by decide), if_neg (by decide), if_neg (by decide), if_pos rfl, if_pos h, show wrap64 ((2 : Int) + 1) = 3 by decide +kernel]

theorem step3 (k : Nat) (a b t d0 d1 d2 d3 d4 d5 d6 d7 d8 d9 d10 e0 e1 e2 e3 e4 e5 e6 e7 e8 e9 e10 : Int) (h : d3 = e3) : remontoirlaw01_TickTops.l0 (k + 1) a b t 3 d0 d1 d2 d3 d4 d5 d6 d7 d8 d9 d10 e0 e1 e2 e3 e4 e5 e6 e7 e8 e9 e10 = remontoirlaw01_TickTops.l0 k a b t 4 d0 d1 d2 d3 d4 d5 d6 d7 d8 d9 d10 e0 e1 e2 e3 e4 e5 e6 e7 e8 e9 e10 := by
  rw [remontoirlaw01_TickTops.l0, if_pos (by decide), if_neg (by decide), if_neg (by decide), if_neg (by decide), if_pos rfl, if_pos h, show wrap64 ((3 : Int) + 1) = 4 by decide +kernel]

theorem step4 (k : Nat) (a b t d0 d1 d2 d3 d4 d5 d6 d7 d8 d9 d10 e0 e1 e2 e3 e4 e5 e6 e7 e8 e9 e10 : Int) (h : d4 = e4) : remontoirlaw01_TickTops.l0 (k + 1) a b t 4 d0 d1 d2 d3 d4 d5 d6 d7 d8 d9 d10 e0 e1 e2 e3 e4 e5 e6 e7 e8 e9 e10 = remontoirlaw01_TickTops.l0 k a b t 5 d0 d1 d2 d3 d4 d5 d6 d7 d8 d9 d10 e0 e1 e2 e3 e4 e5 e6 e7 e8 e9 e10 := by
  rw [remontoirlaw01_TickTops.l0, if_pos (by decide), if_neg (by decide), if_neg (by decide), if_neg (by decide), if_neg (by decide), if_pos rfl, if_pos h, show wrap64 ((4 : Int) + 1) = 5 by decide +kernel]

theorem step5 (k : Nat) (a b t d0 d1 d2 d3 d4 d5 d6 d7 d8 d9 d10 e0 e1 e2 e3 e4 e5 e6 e7 e8 e9 e10 : Int) (h : d5 = e5) : remontoirlaw01_TickTops.l0 (k + 1) a b t 5 d0 d1 d2 d3 d4 d5 d6 d7 d8 d9 d10 e0 e1 e2 e3 e4 e5 e6 e7 e8 e9 e10 = remontoirlaw01_TickTops.l0 k a b t 6 d0 d1 d2 d3 d4 d5 d6 d7 d8 d9 d10 e0 e1 e2 e3 e4 e5 e6 e7 e8 e9 e10 := by
  rw [remontoirlaw01_TickTops.l0, if_pos (by decide), if_neg (by decide), if_neg (by decide), if_neg (by decide), if_neg (by decide), if_neg (by decide), if_pos rfl, if_pos h, show wrap64 ((5 : Int) + 1) = 6 by decide +kernel]

theorem step6 (k : Nat) (a b t d0 d1 d2 d3 d4 d5 d6 d7 d8 d9 d10 e0 e1 e2 e3 e4 e5 e6 e7 e8 e9 e10 : Int) (h : d6 = e6) : remontoirlaw01_TickTops.l0 (k + 1) a b t 6 d0 d1 d2 d3 d4 d5 d6 d7 d8 d9 d10 e0 e1 e2 e3 e4 e5 e6 e7 e8 e9 e10 = remontoirlaw01_TickTops.l0 k a b t 7 d0 d1 d2 d3 d4 d5 d6 d7 d8 d9 d10 e0 e1 e2 e3 e4 e5 e6 e7 e8 e9 e10 := by
  rw [remontoirlaw01_TickTops.l0, if_pos (by decide), if_neg (by decide), if_neg (by decide), if_neg (by decide), if_neg (by decide), if_neg (by decide), if_neg (by decide), if_pos rfl, if_pos h, show wrap64 ((6 : Int) + 1) = 7 by decide +kernel]

theorem step7 (k : Nat) (a b t d0 d1 d2 d3 d4 d5 d6 d7 d8 d9 d10 e0 e1 e2 e3 e4 e5 e6 e7 e8 e9 e10 : Int) (h : d7 = e7) : remontoirlaw01_TickTops.l0 (k + 1) a b t 7 d0 d1 d2 d3 d4 d5 d6 d7 d8 d9 d10 e0 e1 e2 e3 e4 e5 e6 e7 e8 e9 e10 = remontoirlaw01_TickTops.l0 k a b t 8 d0 d1 d2 d3 d4 d5 d6 d7 d8 d9 d10 e0 e1 e2 e3 e4 e5 e6 e7 e8 e9 e10 := by
  rw [remontoirlaw01_TickTops.l0, if_pos (by decide), if_neg (by decide), if_neg (by decide), if_neg (by decide), if_neg (by decide), if_neg (by decide), if_neg (by decide), if_neg (by decide), if_pos rfl, if_pos h, show wrap64 ((7 : Int) + 1) = 8 by decide +kernel]

theorem step8 (k : Nat) (a b t d0 d1 d2 d3 d4 d5 d6 d7 d8 d9 d10 e0 e1 e2 e3 e4 e5 e6 e7 e8 e9 e10 : Int) (h : d8 = e8) : remontoirlaw01_TickTops.l0 (k + 1) a b t 8 d0 d1 d2 d3 d4 d5 d6 d7 d8 d9 d10 e0 e1 e2 e3 e4 e5 e6 e7 e8 e9 e10 = remontoirlaw01_TickTops.l0 k a b t 9 d0 d1 d2 d3 d4 d5 d6 d7 d8 d9 d10 e0 e1 e2 e3 e4 e5 e6 e7 e8 e9 e10 := by
  rw [remontoirlaw01_TickTops.l0, if_pos (by decide), if_neg (by decide), if_neg (by decide), if_neg (by decide), if_neg (by decide), if_neg (by decide), if_neg (by decide), if_neg (by decide), if_neg (by decide), if_pos rfl, if_pos h, show wrap64 ((8 : Int) + 1) = 9 by decide +kernel]

theorem step9 (k : Nat) (a b t d0 d1 d2 d3 d4 d5 d6 d7 d8 d9 d10 e0 e1 e2 e3 e4 e5 e6 e7 e8 e9 e10 : Int) (h : d9 = e9) : remontoirlaw01_TickTops.l0 (k + 1) a b t 9 d0 d1 d2 d3 d4 d5 d6 d7 d8 d9 d10 e0 e1 e2 e3 e4 e5 e6 e7 e8 e9 e10 = remontoirlaw01_TickTops.l0 k a b t 10 d0 d1 d2 d3 d4 d5 d6 d7 d8 d9 d10 e0 e1 e2 e3 e4 e5 e6 e7 e8 e9 e10 := by
  rw [remontoirlaw01_TickTops.l0, if_pos (by decide), if_neg (by decide), if_neg (by decide), if_neg (by decide), if_neg (by decide), if_neg (by decide), if_neg (by decide), if_neg (by decide), if_neg (by decide), if_neg (by decide), if_pos rfl, if_pos h, show wrap64 ((9 : Int) + 1) = 10 by decide +kernel]

theorem step10 (k : Nat) (a b t d0 d1 d2 d3 d4 d5 d6 d7 d8 d9 d10 e0 e1 e2 e3 e4 e5 e6 e7 e8 e9 e10 : Int) (h : d10 = e10) : remontoirlaw01_TickTops.l0 (k + 1) a b t 10 d0 d1 d2 d3 d4 d5 d6 d7 d8 d9 d10 e0 e1 e2 e3 e4 e5 e6 e7 e8 e9 e10 = remontoirlaw01_TickTops.l0 k a b t 11 d0 d1 d2 d3 d4 d5 d6 d7 d8 d9 d10 e0 e1 e2 e3 e4 e5 e6 e7 e8 e9 e10 := by
  rw [remontoirlaw01_TickTops.l0, if_pos (by decide), if_neg (by decide), if_neg (by decide), if_neg (by decide), if_neg (by decide), if_neg (by decide), if_neg (by decide), if_neg (by decide), if_neg (by decide), if_neg (by decide), if_neg (by decide), if_pos rfl, if_pos h, show wrap64 ((10 : Int) + 1) = 11 by decide +kernel]

theorem from11 (k : Nat) (a b t : Int) : remontoirlaw01_TickTops.l0 (k + 0) a b t 11 (dg a 0) (dg a 1) (dg a 2) (dg a 3) (dg a 4) (dg a 5) (dg a 6) (dg a 7) (dg a 8) (dg a 9) (dg a 10) (dg b 0) (dg b 1) (dg b 2) (dg b 3) (dg b 4) (dg b 5) (dg b 6) (dg b 7) (dg b 8) (dg b 9) (dg b 10) = remontoirlaw01_TickTops.l0 k a b t 11 (dg a 0) (dg a 1) (dg a 2) (dg a 3) (dg a 4) (dg a 5) (dg a 6) (dg a 7) (dg a 8) (dg a 9) (dg a 10) (dg b 0) (dg b 1) (dg b 2) (dg b 3) (dg b 4) (dg b 5) (dg b 6) (dg b 7) (dg b 8) (dg b 9) (dg b 10) := by
  rfl

theorem from10 (k : Nat) (a b t : Int) (h : ∀ j : Nat, 10 ≤ j → dg a j = dg b j) : remontoirlaw01_TickTops.l0 (k + 1) a b t 10 (dg a 0) (dg a 1) (dg a 2) (dg a 3) (dg a 4) (dg a 5) (dg a 6) (dg a 7) (dg a 8) (dg a 9) (dg a 10) (dg b 0) (dg b 1) (dg b 2) (dg b 3) (dg b 4) (dg b 5) (dg b 6) (dg b 7) (dg b 8) (dg b 9) (dg b 10) = remontoirlaw01_TickTops.l0 k a b t 11 (dg a 0) (dg a 1) (dg a 2) (dg a 3) (dg a 4) (dg a 5) (dg a 6) (dg a 7) (dg a 8) (dg a 9) (dg a 10) (dg b 0) (dg b 1) (dg b 2) (dg b 3) (dg b 4) (dg b 5) (dg b 6) (dg b 7) (dg b 8) (dg b 9) (dg b 10) := by
  rw [show k + 1 = (k + 0) + 1 from rfl, step10 _ _ _ _ _ _ _ _ _ _ _ _ _ _ _ _ _ _ _ _ _ _ _ _ _ _ (h 10 (by omega))]

theorem from9 (k : Nat) (a b t : Int) (h : ∀ j : Nat, 9 ≤ j → dg a j = dg b j) : remontoirlaw01_TickTops.l0 (k + 2) a b t 9 (dg a 0) (dg a 1) (dg a 2) (dg a 3) (dg a 4) (dg a 5) (dg a 6) (dg a 7) (dg a 8) (dg a 9) (dg a 10) (dg b 0) (dg b 1) (dg b 2) (dg b 3) (dg b 4) (dg b 5) (dg b 6) (dg b 7) (dg b 8) (dg b 9) (dg b 10) = remontoirlaw01_TickTops.l0 k a b t 11 (dg a 0) (dg a 1) (dg a 2) (dg a 3) (dg a 4) (dg a 5) (dg a 6) (dg a 7) (dg a 8) (dg a 9) (dg a 10) (dg b 0) (dg b 1) (dg b 2) (dg b 3) (dg b 4) (dg b 5) (dg b 6) (dg b 7) (dg b 8) (dg b 9) (dg b 10) := by
  rw [show k + 2 = (k + 1) + 1 from rfl, step9 _ _ _ _ _ _ _ _ _ _ _ _ _ _ _ _ _ _ _ _ _ _ _ _ _ _ (h 9 (by omega))]
  exact from10 k a b t (fun j hj => h j (by omega))

theorem from8 (k : Nat) (a b t : Int) (h : ∀ j : Nat, 8 ≤ j → dg a j = dg b j) : remontoirlaw01_TickTops.l0 (k + 3) a b t 8 (dg a 0) (dg a 1) (dg a 2) (dg a 3) (dg a 4) (dg a 5) (dg a 6) (dg a 7) (dg a 8) (dg a 9) (dg a 10) (dg b 0) (dg b 1) (dg b 2) (dg b 3) (dg b 4) (dg b 5) (dg b 6) (dg b 7) (dg b 8) (dg b 9) (dg b 10) = remontoirlaw01_TickTops.l0 k a b t 11 (dg a 0) (dg a 1) (dg a 2) (dg a 3) (dg a 4) (dg a 5) (dg a 6) (dg a 7) (dg a 8) (dg a 9) (dg a 10) (dg b 0) (dg b 1) (dg b 2) (dg b 3) (dg b 4) (dg b 5) (dg b 6) (dg b 7) (dg b 8) (dg b 9) (dg b 10) := by
  rw [show k + 3 = (k + 2) + 1 from rfl, step8 _ _ _ _ _ _ _ _ _ _ _ _ _ _ _ _ _ _ _ _ _ _ _ _ _ _ (h 8 (by omega))]
  exact from9 k a b t (fun j hj => h j (by omega))

theorem from7 (k : Nat) (a b t : Int) (h : ∀ j : Nat, 7 ≤ j → dg a j = dg b j) : remontoirlaw01_TickTops.l0 (k + 4) a b t 7 (dg a 0) (dg a 1) (dg a 2) (dg a 3) (dg a 4) (dg a 5) (dg a 6) (dg a 7) (dg a 8) (dg a 9) (dg a 10) (dg b 0) (dg b 1) (dg b 2) (dg b 3) (dg b 4) (dg b 5) (dg b 6) (dg b 7) (dg b 8) (dg b 9) (dg b 10) = remontoirlaw01_TickTops.l0 k a b t 11 (dg a 0) (dg a 1) (dg a 2) (dg a 3) (dg a 4) (dg a 5) (dg a 6) (dg a 7) (dg a 8) (dg a 9) (dg a 10) (dg b 0) (dg b 1) (dg b 2) (dg b 3) (dg b 4) (dg b 5) (dg b 6) (dg b 7) (dg b 8) (dg b 9) (dg b 10) := by
  rw [show k + 4 = (k + 3) + 1 from rfl, step7 _ _ _ _ _ _ _ _ _ _ _ _ _ _ _ _ _ _ _ _ _ _ _ _ _ _ (h 7 (by omega))]
  exact from8 k a b t (fun j hj => h j (by omega))

theorem from6 (k : Nat) (a b t : Int) (h : ∀ j : Nat, 6 ≤ j → dg a j = dg b j) : remontoirlaw01_TickTops.l0 (k + 5) a b t 6 (dg a 0) (dg a 1) (dg a 2) (dg a 3) (dg a 4) (dg a 5) (dg a 6) (dg a 7) (dg a 8) (dg a 9) (dg a 10) (dg b 0) (dg b 1) (dg b 2) (dg b 3) (dg b 4) (dg b 5) (dg b 6) (dg b 7) (dg b 8) (dg b 9) (dg b 10) = remontoirlaw01_TickTops.l0 k a b t 11 (dg a 0) (dg a 1) (dg a 2) (dg a 3) (dg a 4) (dg a 5) (dg a 6) (dg a 7) (dg a 8) (dg a 9) (dg a 10) (dg b 0) (dg b 1) (dg b 2) (dg b 3) (dg b 4) (dg b 5) (dg b 6) (dg b 7) (dg b 8) (dg b 9) (dg b 10) := by
  rw [show k + 5 = (k + 4) + 1 from rfl, step6 _ _ _ _ _ _ _ _ _ _ _ _ _ _ _ _ _ _ _ _ _ _ _ _ _ _ (h 6 (by omega))]
  exact from7 k a b t (fun j hj => h j (by omega))

theorem from5 (k : Nat) (a b t : Int) (h : ∀ j : Nat, 5 ≤ j → dg a j = dg b j) : remontoirlaw01_TickTops.l0 (k + 6) a b t 5 (dg a 0) (dg a 1) (dg a 2) (dg a 3) (dg a 4) (dg a 5) (dg a 6) (dg a 7) (dg a 8) (dg a 9) (dg a 10) (dg b 0) (dg b 1) (dg b 2) (dg b 3) (dg b 4) (dg b 5) (dg b 6) (dg b 7) (dg b 8) (dg b 9) (dg b 10) = remontoirlaw01_TickTops.l0 k a b t 11 (dg a 0) (dg a 1) (dg a 2) (dg a 3) (dg a 4) (dg a 5) (dg a 6) (dg a 7) (dg a 8) (dg a 9) (dg a 10) (dg b 0) (dg b 1) (dg b 2) (dg b 3) (dg b 4) (dg b 5) (dg b 6) (dg b 7) (dg b 8) (dg b 9) (dg b 10) := by
  rw [show k + 6 = (k + 5) + 1 from rfl, step5 _ _ _ _ _ _ _ _ _ _ _ _ _ _ _ _ _ _ _ _ _ _ _ _ _ _ (h 5 (by omega))]
  exact from6 k a b t (fun j hj => h j (by omega))

theorem from4 (k : Nat) (a b t : Int) (h : ∀ j : Nat, 4 ≤ j → dg a j = dg b j) : remontoirlaw01_TickTops.l0 (k + 7) a b t 4 (dg a 0) (dg a 1) (dg a 2) (dg a 3) (dg a 4) (dg a 5) (dg a 6) (dg a 7) (dg a 8) (dg a 9) (dg a 10) (dg b 0) (dg b 1) (dg b 2) (dg b 3) (dg b 4) (dg b 5) (dg b 6) (dg b 7) (dg b 8) (dg b 9) (dg b 10) = remontoirlaw01_TickTops.l0 k a b t 11 (dg a 0) (dg a 1) (dg a 2) (dg a 3) (dg a 4) (dg a 5) (dg a 6) (dg a 7) (dg a 8) (dg a 9) (dg a 10) (dg b 0) (dg b 1) (dg b 2) (dg b 3) (dg b 4) (dg b 5) (dg b 6) (dg b 7) (dg b 8) (dg b 9) (dg b 10) := by
  rw [show k + 7 = (k + 6) + 1 from rfl, step4 _ _ _ _ _ _ _ _ _ _ _ _ _ _ _ _ _ _ _ _ _ _ _ _ _ _ (h 4 (by omega))]
  exact from5 k a b t (fun j hj => h j (by omega))

theorem from3 (k : Nat) (a b t : Int) (h : ∀ j : Nat, 3 ≤ j → dg a j = dg b j) : remontoirlaw01_TickTops.l0 (k + 8) a b t 3 (dg a 0) (dg a 1) (dg a 2) (dg a 3) (dg a 4) (dg a 5) (dg a 6) (dg a 7) (dg a 8) (dg a 9) (dg a 10) (dg b 0) (dg b 1) (dg b 2) (dg b 3) (dg b 4) (dg b 5) (dg b 6) (dg b 7) (dg b 8) (dg b 9) (dg b 10) = remontoirlaw01_TickTops.l0 k a b t 11 (dg a 0) (dg a 1) (dg a 2) (dg a 3) (dg a 4) (dg a 5) (dg a 6) (dg a 7) (dg a 8) (dg a 9) (dg a 10) (dg b 0) (dg b 1) (dg b 2) (dg b 3) (dg b 4) (dg b 5) (dg b 6) (dg b 7) (dg b 8) (dg b 9) (dg b 10) := by
  rw [show k + 8 = (k + 7) + 1 from rfl, step3 _ _ _ _ _ _ _ _ _ _ _ _ _ _ _ _ _ _ _ _ _ _ _ _ _ _ (h 3 (by omega))]
  exact from4 k a b t (fun j hj => h j (by omega))

theorem from2 (k : Nat) (a b t : Int) (h : ∀ j : Nat, 2 ≤ j → dg a j = dg b j) : remontoirlaw01_TickTops.l0 (k + 9) a b t 2 (dg a 0) (dg a 1) (dg a 2) (dg a 3) (dg a 4) (dg a 5) (dg a 6) (dg a 7) (dg a 8) (dg a 9) (dg a 10) (dg b 0) (dg b 1) (dg b 2) (dg b 3) (dg b 4) (dg b 5) (dg b 6) (dg b 7) (dg b 8) (dg b 9) (dg b 10) = remontoirlaw01_TickTops.l0 k a b t 11 (dg a 0) (dg a 1) (dg a 2) (dg a 3) (dg a 4) (dg a 5) (dg a 6) (dg a 7) (dg a 8) (dg a 9) (dg a 10) (dg b 0) (dg b 1) (dg b 2) (dg b 3) (dg b 4) (dg b 5) (dg b 6) (dg b 7) (dg b 8) (dg b 9) (dg b 10) := by
  rw [show k + 9 = (k + 8) + 1 from rfl, step2 _ _ _ _ _ _ _ _ _ _ _ _ _ _ _ _ _ _ _ _ _ _ _ _ _ _ (h 2 (by omega))]
  exact from3 k a b t (fun j hj => h j (by omega))

theorem from1 (k : Nat) (a b t : Int) (h : ∀ j : Nat, 1 ≤ j → dg a j = dg b j) : remontoirlaw01_TickTops.l0 (k + 10) a b t 1 (dg a 0) (dg a 1) (dg a 2) (dg a 3) (dg a 4) (dg a 5) (dg a 6) (dg a 7) (dg a 8) (dg a 9) (dg a 10) (dg b 0) (dg b 1) (dg b 2) (dg b 3) (dg b 4) (dg b 5) (dg b 6) (dg b 7) (dg b 8) (dg b 9) (dg b 10) = remontoirlaw01_TickTops.l0 k a b t 11 (dg a 0) (dg a 1) (dg a 2) (dg a 3) (dg a 4) (dg a 5) (dg a 6) (dg a 7) (dg a 8) (dg a 9) (dg a 10) (dg b 0) (dg b 1) (dg b 2) (dg b 3) (dg b 4) (dg b 5) (dg b 6) (dg b 7) (dg b 8) (dg b 9) (dg b 10) := by
  rw [show k + 10 = (k + 9) + 1 from rfl, step1 _ _ _ _ _ _ _ _ _ _ _ _ _ _ _ _ _ _ _ _ _ _ _ _ _ _ (h 1 (by omega))]
  exact from2 k a b t (fun j hj => h j (by omega))

theorem from0 (k : Nat) (a b t : Int) (h : ∀ j : Nat, 0 ≤ j → dg a j = dg b j) : remontoirlaw01_TickTops.l0 (k + 11) a b t 0 (dg a 0) (dg a 1) (dg a 2) (dg a 3) (dg a 4) (dg a 5) (dg a 6) (dg a 7) (dg a 8) (dg a 9) (dg a 10) (dg b 0) (dg b 1) (dg b 2) (dg b 3) (dg b 4) (dg b 5) (dg b 6) (dg b 7) (dg b 8) (dg b 9) (dg b 10) = remontoirlaw01_TickTops.l0 k a b t 11 (dg a 0) (dg a 1) (dg a 2) (dg a 3) (dg a 4) (dg a 5) (dg a 6) (dg a 7) (dg a 8) (dg a 9) (dg a 10) (dg b 0) (dg b 1) (dg b 2) (dg b 3) (dg b 4) (dg b 5) (dg b 6) (dg b 7) (dg b 8) (dg b 9) (dg b 10) := by
  rw [show k + 11 = (k + 10) + 1 from rfl, step0 _ _ _ _ _ _ _ _ _ _ _ _ _ _ _ _ _ _ _ _ _ _ _ _ _ _ (h 0 (by omega))]
  exact from1 k a b t (fun j hj => h j (by omega))

theorem exit0 (k : Nat) (a b d0 d1 d2 d3 d4 d5 d6 d7 d8 d9 d10 e0 e1 e2 e3 e4 e5 e6 e7 e8 e9 e10 : Int) (h : d0 ≠ e0) (hl : d0 < e0 ↔ a < b) : remontoirlaw01_TickTops.l0 (k + 13) a b 0 11 d0 d1 d2 d3 d4 d5 d6 d7 d8 d9 d10 e0 e1 e2 e3 e4 e5 e6 e7 e8 e9 e10 = some true := by
  have wk : remontoirlaw01_wakes.f (k + 12) = some true := wakes k
  rw [show k + 13 = (k + 12) + 1 from rfl, remontoirlaw01_TickTops.l0, if_neg (by decide), if_neg (by decide), if_pos rfl, if_neg h, if_pos (by rw [beq_iff_eq, decide_eq_decide]; exact hl), wk]
  rfl

theorem exit1 (k : Nat) (a b d0 d1 d2 d3 d4 d5 d6 d7 d8 d9 d10 e0 e1 e2 e3 e4 e5 e6 e7 e8 e9 e10 : Int) (h : d1 ≠ e1) (hl : d1 < e1 ↔ a < b) : remontoirlaw01_TickTops.l0 (k + 13) a b 1 11 d0 d1 d2 d3 d4 d5 d6 d7 d8 d9 d10 e0 e1 e2 e3 e4 e5 e6 e7 e8 e9 e10 = some true := by
  have wk : remontoirlaw01_wakes.f (k + 12) = some true := wakes k
  rw [show k + 13 = (k + 12) + 1 from rfl, remontoirlaw01_TickTops.l0, if_neg (by decide), if_neg (by decide), if_neg (by decide), if_pos rfl, if_neg h, if_pos (by rw [beq_iff_eq, decide_eq_decide]; exact hl), wk]
  rfl

theorem exit2 (k : Nat) (a b d0 d1 d2 d3 d4 d5 d6 d7 d8 d9 d10 e0 e1 e2 e3 e4 e5 e6 e7 e8 e9 e10 : Int) (h : d2 ≠ e2) (hl : d2 < e2 ↔ a < b) : remontoirlaw01_TickTops.l0 (k + 13) a b 2 11 d0 d1 d2 d3 d4 d5 d6 d7 d8 d9 d10 e0 e1 e2 e3 e4 e5 e6 e7 e8 e9 e10 = some true := by
  have wk : remontoirlaw01_wakes.f (k + 12) = some true := wakes k
  rw [show k + 13 = (k + 12) + 1 from rfl, remontoirlaw01_TickTops.l0, if_neg (by decide), if_neg (by decide), if_neg (by decide), if_neg (by decide), if_pos rfl, if_neg h, if_pos (by rw [beq_iff_eq, decide_eq_decide]; exact hl), wk]
  rfl

theorem exit3 (k : Nat) (a b d0 d1 d2 d3 d4 d5 d6 d7 d8 d9 d10 e0 e1 e2 e3 e4 e5 e6 e7 e8 e9 e10 : Int) (h : d3 ≠ e3) (hl : d3 < e3 ↔ a < b) : remontoirlaw01_TickTops.l0 (k + 13) a b 3 11 d0 d1 d2 d3 d4 d5 d6 d7 d8 d9 d10 e0 e1 e2 e3 e4 e5 e6 e7 e8 e9 e10 = some true := by
  have wk : remontoirlaw01_wakes.f (k + 12) = some true := wakes k
  rw [show k + 13 = (k + 12) + 1 from rfl, remontoirlaw01_TickTops.l0, if_neg (by decide), if_neg (by decide), if_neg (by decide), if_neg (by decide), if_neg (by decide), if_pos rfl, if_neg h, if_pos (by rw [beq_iff_eq, decide_eq_decide]; exact hl), wk]
  rfl

theorem exit4 (k : Nat) (a b d0 d1 d2 d3 d4 d5 d6 d7 d8 d9 d10 e0 e1 e2 e3 e4 e5 e6 e7 e8 e9 e10 : Int) (h : d4 ≠ e4) (hl : d4 < e4 ↔ a < b) : remontoirlaw01_TickTops.l0 (k + 13) a b 4 11 d0 d1 d2 d3 d4 d5 d6 d7 d8 d9 d10 e0 e1 e2 e3 e4 e5 e6 e7 e8 e9 e10 = some true := by
  have wk : remontoirlaw01_wakes.f (k + 12) = some true := wakes k
  rw [show k + 13 = (k + 12) + 1 from rfl, remontoirlaw01_TickTops.l0, if_neg (by decide), if_neg (by decide), if_neg (by decide), if_neg (by decide), if_neg (by decide), if_neg (by decide), if_pos rfl, if_neg h, if_pos (by rw [beq_iff_eq, decide_eq_decide]; exact hl), wk]
  rfl

theorem exit5 (k : Nat) (a b d0 d1 d2 d3 d4 d5 d6 d7 d8 d9 d10 e0 e1 e2 e3 e4 e5 e6 e7 e8 e9 e10 : Int) (h : d5 ≠ e5) (hl : d5 < e5 ↔ a < b) : remontoirlaw01_TickTops.l0 (k + 13) a b 5 11 d0 d1 d2 d3 d4 d5 d6 d7 d8 d9 d10 e0 e1 e2 e3 e4 e5 e6 e7 e8 e9 e10 = some true := by
  have wk : remontoirlaw01_wakes.f (k + 12) = some true := wakes k
  rw [show k + 13 = (k + 12) + 1 from rfl, remontoirlaw01_TickTops.l0, if_neg (by decide), if_neg (by decide), if_neg (by decide), if_neg (by decide), if_neg (by decide), if_neg (by decide), if_neg (by decide), if_pos rfl, if_neg h, if_pos (by rw [beq_iff_eq, decide_eq_decide]; exact hl), wk]
  rfl

theorem exit6 (k : Nat) (a b d0 d1 d2 d3 d4 d5 d6 d7 d8 d9 d10 e0 e1 e2 e3 e4 e5 e6 e7 e8 e9 e10 : Int) (h : d6 ≠ e6) (hl : d6 < e6 ↔ a < b) : remontoirlaw01_TickTops.l0 (k + 13) a b 6 11 d0 d1 d2 d3 d4 d5 d6 d7 d8 d9 d10 e0 e1 e2 e3 e4 e5 e6 e7 e8 e9 e10 = some true := by
  have wk : remontoirlaw01_wakes.f (k + 12) = some true := wakes k
  rw [show k + 13 = (k + 12) + 1 from rfl, remontoirlaw01_TickTops.l0, if_neg (by decide), if_neg (by decide), if_neg (by decide), if_neg (by decide), if_neg (by decide), if_neg (by decide), if_neg (by decide), if_neg (by decide), if_pos rfl, if_neg h, if_pos (by rw [beq_iff_eq, decide_eq_decide]; exact hl), wk]
  rfl

theorem exit7 (k : Nat) (a b d0 d1 d2 d3 d4 d5 d6 d7 d8 d9 d10 e0 e1 e2 e3 e4 e5 e6 e7 e8 e9 e10 : Int) (h : d7 ≠ e7) (hl : d7 < e7 ↔ a < b) : remontoirlaw01_TickTops.l0 (k + 13) a b 7 11 d0 d1 d2 d3 d4 d5 d6 d7 d8 d9 d10 e0 e1 e2 e3 e4 e5 e6 e7 e8 e9 e10 = some true := by
  have wk : remontoirlaw01_wakes.f (k + 12) = some true := wakes k
  rw [show k + 13 = (k + 12) + 1 from rfl, remontoirlaw01_TickTops.l0, if_neg (by decide), if_neg (by decide), if_neg (by decide), if_neg (by decide), if_neg (by decide), if_neg (by decide), if_neg (by decide), if_neg (by decide), if_neg (by decide), if_pos rfl, if_neg h, if_pos (by rw [beq_iff_eq, decide_eq_decide]; exact hl), wk]
  rfl

theorem exit8 (k : Nat) (a b d0 d1 d2 d3 d4 d5 d6 d7 d8 d9 d10 e0 e1 e2 e3 e4 e5 e6 e7 e8 e9 e10 : Int) (h : d8 ≠ e8) (hl : d8 < e8 ↔ a < b) : remontoirlaw01_TickTops.l0 (k + 13) a b 8 11 d0 d1 d2 d3 d4 d5 d6 d7 d8 d9 d10 e0 e1 e2 e3 e4 e5 e6 e7 e8 e9 e10 = some true := by
  have wk : remontoirlaw01_wakes.f (k + 12) = some true := wakes k
  rw [show k + 13 = (k + 12) + 1 from rfl, remontoirlaw01_TickTops.l0, if_neg (by decide), if_neg (by decide), if_neg (by decide), if_neg (by decide), if_neg (by decide), if_neg (by decide), if_neg (by decide), if_neg (by decide), if_neg (by decide), if_neg (by decide), if_pos rfl, if_neg h, if_pos (by rw [beq_iff_eq, decide_eq_decide]; exact hl), wk]
  rfl

theorem exit9 (k : Nat) (a b d0 d1 d2 d3 d4 d5 d6 d7 d8 d9 d10 e0 e1 e2 e3 e4 e5 e6 e7 e8 e9 e10 : Int) (h : d9 ≠ e9) (hl : d9 < e9 ↔ a < b) : remontoirlaw01_TickTops.l0 (k + 13) a b 9 11 d0 d1 d2 d3 d4 d5 d6 d7 d8 d9 d10 e0 e1 e2 e3 e4 e5 e6 e7 e8 e9 e10 = some true := by
  have wk : remontoirlaw01_wakes.f (k + 12) = some true := wakes k
  rw [show k + 13 = (k + 12) + 1 from rfl, remontoirlaw01_TickTops.l0, if_neg (by decide), if_neg (by decide), if_neg (by decide), if_neg (by decide), if_neg (by decide), if_neg (by decide), if_neg (by decide), if_neg (by decide), if_neg (by decide), if_neg (by decide), if_neg (by decide), if_pos rfl, if_neg h, if_pos (by rw [beq_iff_eq, decide_eq_decide]; exact hl), wk]
  rfl

theorem exit10 (k : Nat) (a b d0 d1 d2 d3 d4 d5 d6 d7 d8 d9 d10 e0 e1 e2 e3 e4 e5 e6 e7 e8 e9 e10 : Int) (h : d10 ≠ e10) (hl : d10 < e10 ↔ a < b) : remontoirlaw01_TickTops.l0 (k + 13) a b 10 11 d0 d1 d2 d3 d4 d5 d6 d7 d8 d9 d10 e0 e1 e2 e3 e4 e5 e6 e7 e8 e9 e10 = some true := by
  have wk : remontoirlaw01_wakes.f (k + 12) = some true := wakes k
  rw [show k + 13 = (k + 12) + 1 from rfl, remontoirlaw01_TickTops.l0, if_neg (by decide), if_neg (by decide), if_neg (by decide), if_neg (by decide), if_neg (by decide), if_neg (by decide), if_neg (by decide), if_neg (by decide), if_neg (by decide), if_neg (by decide), if_neg (by decide), if_neg (by decide), if_pos rfl, if_neg h, if_pos (by rw [beq_iff_eq, decide_eq_decide]; exact hl), wk]
  rfl

theorem same (k : Nat) (a b d0 d1 d2 d3 d4 d5 d6 d7 d8 d9 d10 e0 e1 e2 e3 e4 e5 e6 e7 e8 e9 e10 : Int) : remontoirlaw01_TickTops.l0 (k + 13) a b (-1) 11 d0 d1 d2 d3 d4 d5 d6 d7 d8 d9 d10 e0 e1 e2 e3 e4 e5 e6 e7 e8 e9 e10 = some true := by
  have wk : remontoirlaw01_wakes.f (k + 12) = some true := wakes k
  rw [show k + 13 = (k + 12) + 1 from rfl, remontoirlaw01_TickTops.l0, if_neg (by decide), if_pos rfl, wk]
  rfl
theorem less {a b : Int} {i : Nat} (h1 : q (i + 1) a = q (i + 1) b) (h2 : q i a ≠ q i b) : dg a i ≠ dg b i ∧ (dg a i < dg b i ↔ a < b) := by
  have h' : q i a / 64 = q i b / 64 := h1
  have m1 := fun h : a ≤ b => q_lt h i
  have m2 := fun h : b ≤ a => q_lt h i
  unfold dg
  refine ⟨by omega, ?_⟩
  constructor
  · intro h
    apply Decidable.byContradiction
    intro hn
    have := m2 (by omega)
    omega
  · intro h
    have := m1 (by omega)
    omega

theorem way0 (a b : Int) (h1 : q 1 a = q 1 b) (h2 : q 0 a ≠ q 0 b) : remontoirlaw01_TickTops.l0 39 a b 0 (wrap64 (0 + 1)) (dg a 0) (dg a 1) (dg a 2) (dg a 3) (dg a 4) (dg a 5) (dg a 6) (dg a 7) (dg a 8) (dg a 9) (dg a 10) (dg b 0) (dg b 1) (dg b 2) (dg b 3) (dg b 4) (dg b 5) (dg b 6) (dg b 7) (dg b 8) (dg b 9) (dg b 10) = some true := by
  have hl := less (i := 0) h1 h2
  rw [show wrap64 ((0 : Int) + 1) = 1 by decide +kernel, show (39 : Nat) = 29 + 10 from rfl, from1 _ _ _ _ (fun j hj => digs h1 hj)]
  exact exit0 16 a b (dg a 0) (dg a 1) (dg a 2) (dg a 3) (dg a 4) (dg a 5) (dg a 6) (dg a 7) (dg a 8) (dg a 9) (dg a 10) (dg b 0) (dg b 1) (dg b 2) (dg b 3) (dg b 4) (dg b 5) (dg b 6) (dg b 7) (dg b 8) (dg b 9) (dg b 10) hl.1 hl.2

theorem way1 (a b : Int) (h1 : q 2 a = q 2 b) (h2 : q 1 a ≠ q 1 b) : remontoirlaw01_TickTops.l0 39 a b 1 (wrap64 (1 + 1)) (dg a 0) (dg a 1) (dg a 2) (dg a 3) (dg a 4) (dg a 5) (dg a 6) (dg a 7) (dg a 8) (dg a 9) (dg a 10) (dg b 0) (dg b 1) (dg b 2) (dg b 3) (dg b 4) (dg b 5) (dg b 6) (dg b 7) (dg b 8) (dg b 9) (dg b 10) = some true := by
  have hl := less (i := 1) h1 h2
  rw [show wrap64 ((1 : Int) + 1) = 2 by decide +kernel, show (39 : Nat) = 30 + 9 from rfl, from2 _ _ _ _ (fun j hj => digs h1 hj)]
  exact exit1 17 a b (dg a 0) (dg a 1) (dg a 2) (dg a 3) (dg a 4) (dg a 5) (dg a 6) (dg a 7) (dg a 8) (dg a 9) (dg a 10) (dg b 0) (dg b 1) (dg b 2) (dg b 3) (dg b 4) (dg b 5) (dg b 6) (dg b 7) (dg b 8) (dg b 9) (dg b 10) hl.1 hl.2

theorem way2 (a b : Int) (h1 : q 3 a = q 3 b) (h2 : q 2 a ≠ q 2 b) : remontoirlaw01_TickTops.l0 39 a b 2 (wrap64 (2 + 1)) (dg a 0) (dg a 1) (dg a 2) (dg a 3) (dg a 4) (dg a 5) (dg a 6) (dg a 7) (dg a 8) (dg a 9) (dg a 10) (dg b 0) (dg b 1) (dg b 2) (dg b 3) (dg b 4) (dg b 5) (dg b 6) (dg b 7) (dg b 8) (dg b 9) (dg b 10) = some true := by
  have hl := less (i := 2) h1 h2
  rw [show wrap64 ((2 : Int) + 1) = 3 by decide +kernel, show (39 : Nat) = 31 + 8 from rfl, from3 _ _ _ _ (fun j hj => digs h1 hj)]
  exact exit2 18 a b (dg a 0) (dg a 1) (dg a 2) (dg a 3) (dg a 4) (dg a 5) (dg a 6) (dg a 7) (dg a 8) (dg a 9) (dg a 10) (dg b 0) (dg b 1) (dg b 2) (dg b 3) (dg b 4) (dg b 5) (dg b 6) (dg b 7) (dg b 8) (dg b 9) (dg b 10) hl.1 hl.2

theorem way3 (a b : Int) (h1 : q 4 a = q 4 b) (h2 : q 3 a ≠ q 3 b) : remontoirlaw01_TickTops.l0 39 a b 3 (wrap64 (3 + 1)) (dg a 0) (dg a 1) (dg a 2) (dg a 3) (dg a 4) (dg a 5) (dg a 6) (dg a 7) (dg a 8) (dg a 9) (dg a 10) (dg b 0) (dg b 1) (dg b 2) (dg b 3) (dg b 4) (dg b 5) (dg b 6) (dg b 7) (dg b 8) (dg b 9) (dg b 10) = some true := by
  have hl := less (i := 3) h1 h2
  rw [show wrap64 ((3 : Int) + 1) = 4 by decide +kernel, show (39 : Nat) = 32 + 7 from rfl, from4 _ _ _ _ (fun j hj => digs h1 hj)]
  exact exit3 19 a b (dg a 0) (dg a 1) (dg a 2) (dg a 3) (dg a 4) (dg a 5) (dg a 6) (dg a 7) (dg a 8) (dg a 9) (dg a 10) (dg b 0) (dg b 1) (dg b 2) (dg b 3) (dg b 4) (dg b 5) (dg b 6) (dg b 7) (dg b 8) (dg b 9) (dg b 10) hl.1 hl.2

theorem way4 (a b : Int) (h1 : q 5 a = q 5 b) (h2 : q 4 a ≠ q 4 b) : remontoirlaw01_TickTops.l0 39 a b 4 (wrap64 (4 + 1)) (dg a 0) (dg a 1) (dg a 2) (dg a 3) (dg a 4) (dg a 5) (dg a 6) (dg a 7) (dg a 8) (dg a 9) (dg a 10) (dg b 0) (dg b 1) (dg b 2) (dg b 3) (dg b 4) (dg b 5) (dg b 6) (dg b 7) (dg b 8) (dg b 9) (dg b 10) = some true := by
  have hl := less (i := 4) h1 h2
  rw [show wrap64 ((4 : Int) + 1) = 5 by decide +kernel, show (39 : Nat) = 33 + 6 from rfl, from5 _ _ _ _ (fun j hj => digs h1 hj)]
  exact exit4 20 a b (dg a 0) (dg a 1) (dg a 2) (dg a 3) (dg a 4) (dg a 5) (dg a 6) (dg a 7) (dg a 8) (dg a 9) (dg a 10) (dg b 0) (dg b 1) (dg b 2) (dg b 3) (dg b 4) (dg b 5) (dg b 6) (dg b 7) (dg b 8) (dg b 9) (dg b 10) hl.1 hl.2

theorem way5 (a b : Int) (h1 : q 6 a = q 6 b) (h2 : q 5 a ≠ q 5 b) : remontoirlaw01_TickTops.l0 39 a b 5 (wrap64 (5 + 1)) (dg a 0) (dg a 1) (dg a 2) (dg a 3) (dg a 4) (dg a 5) (dg a 6) (dg a 7) (dg a 8) (dg a 9) (dg a 10) (dg b 0) (dg b 1) (dg b 2) (dg b 3) (dg b 4) (dg b 5) (dg b 6) (dg b 7) (dg b 8) (dg b 9) (dg b 10) = some true := by
  have hl := less (i := 5) h1 h2
  rw [show wrap64 ((5 : Int) + 1) = 6 by decide +kernel, show (39 : Nat) = 34 + 5 from rfl, from6 _ _ _ _ (fun j hj => digs h1 hj)]
  exact exit5 21 a b (dg a 0) (dg a 1) (dg a 2) (dg a 3) (dg a 4) (dg a 5) (dg a 6) (dg a 7) (dg a 8) (dg a 9) (dg a 10) (dg b 0) (dg b 1) (dg b 2) (dg b 3) (dg b 4) (dg b 5) (dg b 6) (dg b 7) (dg b 8) (dg b 9) (dg b 10) hl.1 hl.2

theorem way6 (a b : Int) (h1 : q 7 a = q 7 b) (h2 : q 6 a ≠ q 6 b) : remontoirlaw01_TickTops.l0 39 a b 6 (wrap64 (6 + 1)) (dg a 0) (dg a 1) (dg a 2) (dg a 3) (dg a 4) (dg a 5) (dg a 6) (dg a 7) (dg a 8) (dg a 9) (dg a 10) (dg b 0) (dg b 1) (dg b 2) (dg b 3) (dg b 4) (dg b 5) (dg b 6) (dg b 7) (dg b 8) (dg b 9) (dg b 10) = some true := by
  have hl := less (i := 6) h1 h2
  rw [show wrap64 ((6 : Int) + 1) = 7 by decide +kernel, show (39 : Nat) = 35 + 4 from rfl, from7 _ _ _ _ (fun j hj => digs h1 hj)]
  exact exit6 22 a b (dg a 0) (dg a 1) (dg a 2) (dg a 3) (dg a 4) (dg a 5) (dg a 6) (dg a 7) (dg a 8) (dg a 9) (dg a 10) (dg b 0) (dg b 1) (dg b 2) (dg b 3) (dg b 4) (dg b 5) (dg b 6) (dg b 7) (dg b 8) (dg b 9) (dg b 10) hl.1 hl.2

theorem way7 (a b : Int) (h1 : q 8 a = q 8 b) (h2 : q 7 a ≠ q 7 b) : remontoirlaw01_TickTops.l0 39 a b 7 (wrap64 (7 + 1)) (dg a 0) (dg a 1) (dg a 2) (dg a 3) (dg a 4) (dg a 5) (dg a 6) (dg a 7) (dg a 8) (dg a 9) (dg a 10) (dg b 0) (dg b 1) (dg b 2) (dg b 3) (dg b 4) (dg b 5) (dg b 6) (dg b 7) (dg b 8) (dg b 9) (dg b 10) = some true := by
  have hl := less (i := 7) h1 h2
  rw [show wrap64 ((7 : Int) + 1) = 8 by decide +kernel, show (39 : Nat) = 36 + 3 from rfl, from8 _ _ _ _ (fun j hj => digs h1 hj)]
  exact exit7 23 a b (dg a 0) (dg a 1) (dg a 2) (dg a 3) (dg a 4) (dg a 5) (dg a 6) (dg a 7) (dg a 8) (dg a 9) (dg a 10) (dg b 0) (dg b 1) (dg b 2) (dg b 3) (dg b 4) (dg b 5) (dg b 6) (dg b 7) (dg b 8) (dg b 9) (dg b 10) hl.1 hl.2

theorem way8 (a b : Int) (h1 : q 9 a = q 9 b) (h2 : q 8 a ≠ q 8 b) : remontoirlaw01_TickTops.l0 39 a b 8 (wrap64 (8 + 1)) (dg a 0) (dg a 1) (dg a 2) (dg a 3) (dg a 4) (dg a 5) (dg a 6) (dg a 7) (dg a 8) (dg a 9) (dg a 10) (dg b 0) (dg b 1) (dg b 2) (dg b 3) (dg b 4) (dg b 5) (dg b 6) (dg b 7) (dg b 8) (dg b 9) (dg b 10) = some true := by
  have hl := less (i := 8) h1 h2
  rw [show wrap64 ((8 : Int) + 1) = 9 by decide +kernel, show (39 : Nat) = 37 + 2 from rfl, from9 _ _ _ _ (fun j hj => digs h1 hj)]
  exact exit8 24 a b (dg a 0) (dg a 1) (dg a 2) (dg a 3) (dg a 4) (dg a 5) (dg a 6) (dg a 7) (dg a 8) (dg a 9) (dg a 10) (dg b 0) (dg b 1) (dg b 2) (dg b 3) (dg b 4) (dg b 5) (dg b 6) (dg b 7) (dg b 8) (dg b 9) (dg b 10) hl.1 hl.2

theorem way9 (a b : Int) (h1 : q 10 a = q 10 b) (h2 : q 9 a ≠ q 9 b) : remontoirlaw01_TickTops.l0 39 a b 9 (wrap64 (9 + 1)) (dg a 0) (dg a 1) (dg a 2) (dg a 3) (dg a 4) (dg a 5) (dg a 6) (dg a 7) (dg a 8) (dg a 9) (dg a 10) (dg b 0) (dg b 1) (dg b 2) (dg b 3) (dg b 4) (dg b 5) (dg b 6) (dg b 7) (dg b 8) (dg b 9) (dg b 10) = some true := by
  have hl := less (i := 9) h1 h2
  rw [show wrap64 ((9 : Int) + 1) = 10 by decide +kernel, show (39 : Nat) = 38 + 1 from rfl, from10 _ _ _ _ (fun j hj => digs h1 hj)]
  exact exit9 25 a b (dg a 0) (dg a 1) (dg a 2) (dg a 3) (dg a 4) (dg a 5) (dg a 6) (dg a 7) (dg a 8) (dg a 9) (dg a 10) (dg b 0) (dg b 1) (dg b 2) (dg b 3) (dg b 4) (dg b 5) (dg b 6) (dg b 7) (dg b 8) (dg b 9) (dg b 10) hl.1 hl.2

theorem way10 (a b : Int) (h1 : q 11 a = q 11 b) (h2 : q 10 a ≠ q 10 b) : remontoirlaw01_TickTops.l0 39 a b 10 (wrap64 (10 + 1)) (dg a 0) (dg a 1) (dg a 2) (dg a 3) (dg a 4) (dg a 5) (dg a 6) (dg a 7) (dg a 8) (dg a 9) (dg a 10) (dg b 0) (dg b 1) (dg b 2) (dg b 3) (dg b 4) (dg b 5) (dg b 6) (dg b 7) (dg b 8) (dg b 9) (dg b 10) = some true := by
  have hl := less (i := 10) h1 h2
  rw [show wrap64 ((10 : Int) + 1) = 11 by decide +kernel, show (39 : Nat) = 39 + 0 from rfl, from11]
  exact exit10 26 a b (dg a 0) (dg a 1) (dg a 2) (dg a 3) (dg a 4) (dg a 5) (dg a 6) (dg a 7) (dg a 8) (dg a 9) (dg a 10) (dg b 0) (dg b 1) (dg b 2) (dg b 3) (dg b 4) (dg b 5) (dg b 6) (dg b 7) (dg b 8) (dg b 9) (dg b 10) hl.1 hl.2

theorem j0_no (k : Nat) (a b t d0 d1 d2 d3 d4 d5 d6 d7 d8 d9 d10 e0 e1 e2 e3 e4 e5 e6 e7 e8 e9 e10 : Int) : remontoirlaw01_TickTops.j0 (k + 1) a b t false d0 d1 d2 d3 d4 d5 d6 d7 d8 d9 d10 e0 e1 e2 e3 e4 e5 e6 e7 e8 e9 e10 = remontoirlaw01_TickTops.l0 k a b t (wrap64 (t + 1)) d0 d1 d2 d3 d4 d5 d6 d7 d8 d9 d10 e0 e1 e2 e3 e4 e5 e6 e7 e8 e9 e10 := by
  rw [remontoirlaw01_TickTops.j0, if_neg (by decide)]
theorem told (a b : Int) (ha : U a) (hb : U b) : remontoirlaw01_TickTops.f 40 a b = some true := by
  obtain ⟨t, t1, t2⟩ := top ha hb
  obtain ⟨t', u1, u2⟩ := top hb ha
  obtain ⟨s, s1, s2⟩ := top ha ha
  have hs : s = -1 := s2.unique (.inl ⟨rfl, rfl⟩)
  have ht : t = t' := by
    refine t2.unique ?_
    rcases u2 with ⟨e1, e2⟩ | ⟨e1, e2, e3, e4⟩
    · exact .inl ⟨e1, e2.symm⟩
    · exact .inr ⟨e1, e2, e3.symm, fun hh => e4 hh.symm⟩
  subst ht hs
  unfold remontoirlaw01_TickTops.f
  rw [show (40 : Nat) = 28 + 12 from rfl, t1, u1, s1, digits ha, digits hb, Option.bind_some, Option.bind_some, Option.bind_some, Option.bind_some, if_pos rfl, Option.bind_some]
  have hr : -1 ≤ t ∧ t ≤ 10 := by rcases t2 with ⟨e1, e2⟩ | ⟨e1, e2, e3, e4⟩ <;> omega
  have hne : ¬ ((t == -1) != (a == b)) = true := by
    rcases t2 with ⟨e1, e2⟩ | ⟨e1, e2, e3, e4⟩
    · rw [beq_iff_eq.2 e1, beq_iff_eq.2 e2]; decide
    · rw [beq_eq_false_iff_ne.2 (show t ≠ -1 by omega), beq_eq_false_iff_ne.2 (show a ≠ b from fun h => e4 (by rw [h]))]; decide
  rw [if_neg (by omega), if_neg (by omega), if_neg hne, show ((-1 : Int) != -1) = false from rfl]
  show remontoirlaw01_TickTops.j0 (39 + 1) a b t false (dg a 0) (dg a 1) (dg a 2) (dg a 3) (dg a 4) (dg a 5) (dg a 6) (dg a 7) (dg a 8) (dg a 9) (dg a 10) (dg b 0) (dg b 1) (dg b 2) (dg b 3) (dg b 4) (dg b 5) (dg b 6) (dg b 7) (dg b 8) (dg b 9) (dg b 10) = some true
  rw [j0_no]
  rcases t2 with ⟨rfl, rfl⟩ | ⟨e1, e2, e3, e4⟩
  · rw [show wrap64 ((-1 : Int) + 1) = 0 by decide +kernel, show (39 : Nat) = 28 + 11 from rfl, from0 _ _ _ _ (fun _ _ => rfl)]
    exact same 15 _ _ _ _ _ _ _ _ _ _ _ _ _ _ _ _ _ _ _ _ _ _ _ _
  · have hc : t = 0 ∨ t = 1 ∨ t = 2 ∨ t = 3 ∨ t = 4 ∨ t = 5 ∨ t = 6 ∨ t = 7 ∨ t = 8 ∨ t = 9 ∨ t = 10 := by omega
    rcases hc with rfl | rfl | rfl | rfl | rfl | rfl | rfl | rfl | rfl | rfl | rfl
    · exact way0 a b e3 e4
    · exact way1 a b e3 e4
    · exact way2 a b e3 e4
    · exact way3 a b e3 e4
    · exact way4 a b e3 e4
    · exact way5 a b e3 e4
    · exact way6 a b e3 e4
    · exact way7 a b e3 e4
    · exact way8 a b e3 e4
    · exact way9 a b e3 e4
    · exact way10 a b e3 e4
set_option linter.unusedVariables false
theorem calls (W : World) (a0 : Int) (w0 : (Lit.int .u64 a0).wf = true) (a1 : Int) (w1 : (Lit.int .u64 a1).wf = true) :
    Calls Try.prog 3 #[.int .u64 a0, .int .u64 a1] W fun e w' => e = .returned (.bool true) ∧ Below W.heap.size W w' := by
  have h0 := Go.bounds_u64 w0
  have h1 := Go.bounds_u64 w1
  exact remontoirlaw01_TickTops.calls 40 a0 a1 true W (told a0 a1 (by unfold U; omega) (by unfold U; omega)) (Nat.zero_le _)
end Go.Proofs.Ytfkknipkfcmiaaa.CallTickTops
