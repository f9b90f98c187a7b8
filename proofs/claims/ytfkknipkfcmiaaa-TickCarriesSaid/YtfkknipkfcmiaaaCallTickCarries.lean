/- TickCarries: a number and the next one; then as a call. Conditions: none. -/
import Derived.Test.YtfkknipkfcmiaaaCore
import Derived.Test.YtfkknipkfcmiaaaPBig3
import Derived.OpenShut
namespace Go.Proofs.Ytfkknipkfcmiaaa.CallTickCarries
open Go.RowKit Go.Proofs.Ytfkknipkfcmiaaa.PAll Go.Proofs.Ytfkknipkfcmiaaa.Add Go.Proofs.YtfkknipkfcmiaaaW.PrintWords Go.Proofs.YtfkknipkfcmiaaaW.PrintLast Go.Proofs.YtfkknipkfcmiaaaW.PrintMore Go.Proofs.Ytfkknipkfcmiaaa.Core

theorem q_lt {a b : Int} (h : a ≤ b) : ∀ i, q i a ≤ q i b
  | 0 => h
  | i + 1 => Int.ediv_le_ediv (by decide) (q_lt h i)
theorem digs {a b : Int} {i : Nat} (h : q i a = q i b) {j : Nat} (hj : i ≤ j) : dg a j = dg b j := by
  have := q_up h (j - i)
  rw [show i + (j - i) = j by omega] at this
  unfold dg
  rw [this]

theorem step0 (k : Nat) (a t d0 d1 d2 d3 d4 d5 d6 d7 d8 d9 d10 e0 e1 e2 e3 e4 e5 e6 e7 e8 e9 e10 : Int) (h : d0 = e0) : remontoirlaw01_TickCarries.l1 (k + 1) a t 0 d0 d1 d2 d3 d4 d5 d6 d7 d8 d9 d10 e0 e1 e2 e3 e4 e5 e6 e7 e8 e9 e10 = remontoirlaw01_TickCarries.l1 k a t 1 d0 d1 d2 d3 d4 d5 d6 d7 d8 d9 d10 e0 e1 e2 e3 e4 e5 e6 e7 e8 e9 e10 := by
  rw [remontoirlaw01_TickCarries.l1, if_pos (by decide), if_pos rfl, if_pos h, show wrap64 ((0 : Int) + 1) = 1 by decide +kernel]

theorem step1 (k : Nat) (a t d0 d1 d2 d3 d4 d5 d6 d7 d8 d9 d10 e0 e1 e2 e3 e4 e5 e6 e7 e8 e9 e10 : Int) (h : d1 = e1) : remontoirlaw01_TickCarries.l1 (k + 1) a t 1 d0 d1 d2 d3 d4 d5 d6 d7 d8 d9 d10 e0 e1 e2 e3 e4 e5 e6 e7 e8 e9 e10 = remontoirlaw01_TickCarries.l1 k a t 2 d0 d1 d2 d3 d4 d5 d6 d7 d8 d9 d10 e0 e1 e2 e3 e4 e5 e6 e7 e8 e9 e10 := by
  rw [remontoirlaw01_TickCarries.l1, if_pos (by decide), if_neg (by decide), if_pos rfl, if_pos h, show wrap64 ((1 : Int) + 1) = 2 by decide +kernel]

theorem step2 (k : Nat) (a t d0 d1 d2 d3 d4 d5 d6 d7 d8 d9 d10 e0 e1 e2 e3 e4 e5 e6 e7 e8 e9 e10 : Int) (h : d2 = e2) : remontoirlaw01_TickCarries.l1 (k + 1) a t 2 d0 d1 d2 d3 d4 d5 d6 d7 d8 d9 d10 e0 e1 e2 e3 e4 e5 e6 e7 e8 e9 e10 = remontoirlaw01_TickCarries.l1 k a t 3 d0 d1 d2 d3 d4 d5 d6 d7 d8 d9 d10 e0 e1 e2 e3 e4 e5 e6 e7 e8 e9 e10 := by
  rw [remontoirlaw01_TickCarries.l1, if_pos (by decide), if_neg (by decide), if_neg (by decide), if_pos rfl, if_pos h, show wrap64 ((2 : Int) + 1) = 3 by decide +kernel]

theorem step3 (k : Nat) (a t d0 d1 d2 d3 d4 d5 d6 d7 d8 d9 d10 e0 e1 e2 e3 e4 e5 e6 e7 e8 e9 e10 : Int) (h : d3 = e3) : remontoirlaw01_TickCarries.l1 (k + 1) a t 3 d0 d1 d2 d3 d4 d5 d6 d7 d8 d9 d10 e0 e1 e2 e3 e4 e5 e6 e7 e8 e9 e10 = remontoirlaw01_TickCarries.l1 k a t 4 d0 d1 d2 d3 d4 d5 d6 d7 d8 d9 d10 e0 e1 e2 e3 e4 e5 e6 e7 e8 e9 e10 := by
  rw [remontoirlaw01_TickCarries.l1, if_pos (by decide), if_neg (by decide), if_neg (by decide), if_neg (by decide), if_pos rfl, if_pos h, show wrap64 ((3 : Int) + 1) = 4 by decide +kernel]

theorem step4 (k : Nat) (a t d0 d1 d2 d3 d4 d5 d6 d7 d8 d9 d10 e0 e1 e2 e3 e4 e5 e6 e7 e8 e9 e10 : Int) (h : d4 = e4) : remontoirlaw01_TickCarries.l1 (k + 1) a t 4 d0 d1 d2 d3 d4 d5 d6 d7 d8 d9 d10 e0 e1 e2 e3 e4 e5 e6 e7 e8 e9 e10 = remontoirlaw01_TickCarries.l1 k a t 5 d0 d1 d2 d3 d4 d5 d6 d7 d8 d9 d10 e0 e1 e2 e3 e4 e5 e6 e7 e8 e9 e10 := by
  rw [remontoirlaw01_TickCarries.l1, if_pos (by decide), if_neg (by decide), if_neg (by decide), if_neg (by decide), if_neg (by decide), if_pos rfl, if_pos h, show wrap64 ((4 : Int) + 1) = 5 by decide +kernel]

theorem step5 (k : Nat) (a t d0 d1 d2 d3 d4 d5 d6 d7 d8 d9 d10 e0 e1 e2 e3 e4 e5 e6 e7 e8 e9 e10 : Int) (h : d5 = e5) : remontoirlaw01_TickCarries.l1 (k + 1) a t 5 d0 d1 d2 d3 d4 d5 d6 d7 d8 d9 d10 e0 e1 e2 e3 e4 e5 e6 e7 e8 e9 e10 = remontoirlaw01_TickCarries.l1 k a t 6 d0 d1 d2 d3 d4 d5 d6 d7 d8 d9 d10 e0 e1 e2 e3 e4 e5 e6 e7 e8 e9 e10 := by
  rw [remontoirlaw01_TickCarries.l1, if_pos (by decide), if_neg (by decide), if_neg (by decide), if_neg (by decide), if_neg (by decide), if_neg (by decide), if_pos rfl, if_pos h, show wrap64 ((5 : Int) + 1) = 6 by decide +kernel]

theorem step6 (k : Nat) (a t d0 d1 d2 d3 d4 d5 d6 d7 d8 d9 d10 e0 e1 e2 e3 e4 e5 e6 e7 e8 e9 e10 : Int) (h : d6 = e6) : remontoirlaw01_TickCarries.l1 (k + 1) a t 6 d0 d1 d2 d3 d4 d5 d6 d7 d8 d9 d10 e0 e1 e2 e3 e4 e5 e6 e7 e8 e9 e10 = remontoirlaw01_TickCarries.l1 k a t 7 d0 d1 d2 d3 d4 d5 d6 d7 d8 d9 d10 e0 e1 e2 e3 e4 e5 e6 e7 e8 e9 e10 := by
  rw [remontoirlaw01_TickCarries.l1, if_pos (by decide), if_neg (by decide), if_neg (by decide), if_neg (by decide), if_neg (by decide), if_neg (by decide), if_neg (by decide), if_pos rfl, if_pos h, show wrap64 ((6 : Int) + 1) = 7 by decide +kernel]

theorem step7 (k : Nat) (a t d0 d1 d2 d3 d4 d5 d6 d7 d8 d9 d10 e0 e1 e2 e3 e4 e5 e6 e7 e8 e9 e10 : Int) (h : d7 = e7) : remontoirlaw01_TickCarries.l1 (k + 1) a t 7 d0 d1 d2 d3 d4 d5 d6 d7 d8 d9 d10 e0 e1 e2 e3 e4 e5 e6 e7 e8 e9 e10 = remontoirlaw01_TickCarries.l1 k a t 8 d0 d1 d2 d3 d4 d5 d6 d7 d8 d9 d10 e0 e1 e2 e3 e4 e5 e6 e7 e8 e9 e10 := by
  rw [remontoirlaw01_TickCarries.l1, if_pos (by decide), if_neg (by decide), if_neg (by decide), if_neg (by decide), if_neg (by decide), if_neg (by decide), if_neg (by decide), if_neg (by decide), if_pos rfl, if_pos h, show wrap64 ((7 : Int) + 1) = 8 by decide +kernel]

theorem step8 (k : Nat) (a t d0 d1 d2 d3 d4 d5 d6 d7 d8 d9 d10 e0 e1 e2 e3 e4 e5 e6 e7 e8 e9 e10 : Int) (h : d8 = e8) : remontoirlaw01_TickCarries.l1 (k + 1) a t 8 d0 d1 d2 d3 d4 d5 d6 d7 d8 d9 d10 e0 e1 e2 e3 e4 e5 e6 e7 e8 e9 e10 = remontoirlaw01_TickCarries.l1 k a t 9 d0 d1 d2 d3 d4 d5 d6 d7 d8 d9 d10 e0 e1 e2 e3 e4 e5 e6 e7 e8 e9 e10 := by
  rw [remontoirlaw01_TickCarries.l1, if_pos (by decide), if_neg (by decide), if_neg (by decide), if_neg (by decide), if_neg (by decide), if_neg (by decide), if_neg (by decide), if_neg (by decide), if_neg (by decide), if_pos rfl, if_pos h, show wrap64 ((8 : Int) + 1) = 9 by decide +kernel]

theorem step9 (k : Nat) (a t d0 d1 d2 d3 d4 d5 d6 d7 d8 d9 d10 e0 e1 e2 e3 e4 e5 e6 e7 e8 e9 e10 : Int) (h : d9 = e9) : remontoirlaw01_TickCarries.l1 (k + 1) a t 9 d0 d1 d2 d3 d4 d5 d6 d7 d8 d9 d10 e0 e1 e2 e3 e4 e5 e6 e7 e8 e9 e10 = remontoirlaw01_TickCarries.l1 k a t 10 d0 d1 d2 d3 d4 d5 d6 d7 d8 d9 d10 e0 e1 e2 e3 e4 e5 e6 e7 e8 e9 e10 := by
  rw [remontoirlaw01_TickCarries.l1, if_pos (by decide), if_neg (by decide), if_neg (by decide), if_neg (by decide), if_neg (by decide), if_neg (by decide), if_neg (by decide), if_neg (by decide), if_neg (by decide), if_neg (by decide), if_pos rfl, if_pos h, show wrap64 ((9 : Int) + 1) = 10 by decide +kernel]

theorem step10 (k : Nat) (a t d0 d1 d2 d3 d4 d5 d6 d7 d8 d9 d10 e0 e1 e2 e3 e4 e5 e6 e7 e8 e9 e10 : Int) (h : d10 = e10) : remontoirlaw01_TickCarries.l1 (k + 1) a t 10 d0 d1 d2 d3 d4 d5 d6 d7 d8 d9 d10 e0 e1 e2 e3 e4 e5 e6 e7 e8 e9 e10 = remontoirlaw01_TickCarries.l1 k a t 11 d0 d1 d2 d3 d4 d5 d6 d7 d8 d9 d10 e0 e1 e2 e3 e4 e5 e6 e7 e8 e9 e10 := by
  rw [remontoirlaw01_TickCarries.l1, if_pos (by decide), if_neg (by decide), if_neg (by decide), if_neg (by decide), if_neg (by decide), if_neg (by decide), if_neg (by decide), if_neg (by decide), if_neg (by decide), if_neg (by decide), if_neg (by decide), if_pos rfl, if_pos h, show wrap64 ((10 : Int) + 1) = 11 by decide +kernel]

theorem from11 (k : Nat) (a t : Int) : remontoirlaw01_TickCarries.l1 (k + 0) a t 11 (dg a 0) (dg a 1) (dg a 2) (dg a 3) (dg a 4) (dg a 5) (dg a 6) (dg a 7) (dg a 8) (dg a 9) (dg a 10) (dg (a + 1) 0) (dg (a + 1) 1) (dg (a + 1) 2) (dg (a + 1) 3) (dg (a + 1) 4) (dg (a + 1) 5) (dg (a + 1) 6) (dg (a + 1) 7) (dg (a + 1) 8) (dg (a + 1) 9) (dg (a + 1) 10) = remontoirlaw01_TickCarries.l1 k a t 11 (dg a 0) (dg a 1) (dg a 2) (dg a 3) (dg a 4) (dg a 5) (dg a 6) (dg a 7) (dg a 8) (dg a 9) (dg a 10) (dg (a + 1) 0) (dg (a + 1) 1) (dg (a + 1) 2) (dg (a + 1) 3) (dg (a + 1) 4) (dg (a + 1) 5) (dg (a + 1) 6) (dg (a + 1) 7) (dg (a + 1) 8) (dg (a + 1) 9) (dg (a + 1) 10) := by
  rfl

theorem from10 (k : Nat) (a t : Int) (h : ∀ j : Nat, 10 ≤ j → dg a j = dg (a + 1) j) : remontoirlaw01_TickCarries.l1 (k + 1) a t 10 (dg a 0) (dg a 1) (dg a 2) (dg a 3) (dg a 4) (dg a 5) (dg a 6) (dg a 7) (dg a 8) (dg a 9) (dg a 10) (dg (a + 1) 0) (dg (a + 1) 1) (dg (a + 1) 2) (dg (a + 1) 3) (dg (a + 1) 4) (dg (a + 1) 5) (dg (a + 1) 6) (dg (a + 1) 7) (dg (a + 1) 8) (dg (a + 1) 9) (dg (a + 1) 10) = remontoirlaw01_TickCarries.l1 k a t 11 (dg a 0) (dg a 1) (dg a 2) (dg a 3) (dg a 4) (dg a 5) (dg a 6) (dg a 7) (dg a 8) (dg a 9) (dg a 10) (dg (a + 1) 0) (dg (a + 1) 1) (dg (a + 1) 2) (dg (a + 1) 3) (dg (a + 1) 4) (dg (a + 1) 5) (dg (a + 1) 6) (dg (a + 1) 7) (dg (a + 1) 8) (dg (a + 1) 9) (dg (a + 1) 10) := by
  rw [show k + 1 = (k + 0) + 1 from rfl, step10 _ _ _ _ _ _ _ _ _ _ _ _ _ _ _ _ _ _ _ _ _ _ _ _ _ (h 10 (by omega))]

theorem from9 (k : Nat) (a t : Int) (h : ∀ j : Nat, 9 ≤ j → dg a j = dg (a + 1) j) : remontoirlaw01_TickCarries.l1 (k + 2) a t 9 (dg a 0) (dg a 1) (dg a 2) (dg a 3) (dg a 4) (dg a 5) (dg a 6) (dg a 7) (dg a 8) (dg a 9) (dg a 10) (dg (a + 1) 0) (dg (a + 1) 1) (dg (a + 1) 2) (dg (a + 1) 3) (dg (a + 1) 4) (dg (a + 1) 5) (dg (a + 1) 6) (dg (a + 1) 7) (dg (a + 1) 8) (dg (a + 1) 9) (dg (a + 1) 10) = remontoirlaw01_TickCarries.l1 k a t 11 (dg a 0) (dg a 1) (dg a 2) (dg a 3) (dg a 4) (dg a 5) (dg a 6) (dg a 7) (dg a 8) (dg a 9) (dg a 10) (dg (a + 1) 0) (dg (a + 1) 1) (dg (a + 1) 2) (dg (a + 1) 3) (dg (a + 1) 4) (dg (a + 1) 5) (dg (a + 1) 6) (dg (a + 1) 7) (dg (a + 1) 8) (dg (a + 1) 9) (dg (a + 1) 10) := by
  rw [show k + 2 = (k + 1) + 1 from rfl, step9 _ _ _ _ _ _ _ _ _ _ _ _ _ _ _ _ _ _ _ _ _ _ _ _ _ (h 9 (by omega))]
  exact from10 k a t (fun j hj => h j (by omega))

theorem from8 (k : Nat) (a t : Int) (h : ∀ j : Nat, 8 ≤ j → dg a j = dg (a + 1) j) : remontoirlaw01_TickCarries.l1 (k + 3) a t 8 (dg a 0) (dg a 1) (dg a 2) (dg a 3) (dg a 4) (dg a 5) (dg a 6) (dg a 7) (dg a 8) (dg a 9) (dg a 10) (dg (a + 1) 0) (dg (a + 1) 1) (dg (a + 1) 2) (dg (a + 1) 3) (dg (a + 1) 4) (dg (a + 1) 5) (dg (a + 1) 6) (dg (a + 1) 7) (dg (a + 1) 8) (dg (a + 1) 9) (dg (a + 1) 10) = remontoirlaw01_TickCarries.l1 k a t 11 (dg a 0) (dg a 1) (dg a 2) (dg a 3) (dg a 4) (dg a 5) (dg a 6) (dg a 7) (dg a 8) (dg a 9) (dg a 10) (dg (a + 1) 0) (dg (a + 1) 1) (dg (a + 1) 2) (dg (a + 1) 3) (dg (a + 1) 4) (dg (a + 1) 5) (dg (a + 1) 6) (dg (a + 1) 7) (dg (a + 1) 8) (dg (a + 1) 9) (dg (a + 1) 10) := by
  rw [show k + 3 = (k + 2) + 1 from rfl, step8 _ _ _ _ _ _ _ _ _ _ _ _ _ _ _ _ _ _ _ _ _ _ _ _ _ (h 8 (by omega))]
  exact from9 k a t (fun j hj => h j (by omega))

theorem from7 (k : Nat) (a t : Int) (h : ∀ j : Nat, 7 ≤ j → dg a j = dg (a + 1) j) : remontoirlaw01_TickCarries.l1 (k + 4) a t 7 (dg a 0) (dg a 1) (dg a 2) (dg a 3) (dg a 4) (dg a 5) (dg a 6) (dg a 7) (dg a 8) (dg a 9) (dg a 10) (dg (a + 1) 0) (dg (a + 1) 1) (dg (a + 1) 2) (dg (a + 1) 3) (dg (a + 1) 4) (dg (a + 1) 5) (dg (a + 1) 6) (dg (a + 1) 7) (dg (a + 1) 8) (dg (a + 1) 9) (dg (a + 1) 10) = remontoirlaw01_TickCarries.l1 k a t 11 (dg a 0) (dg a 1) (dg a 2) (dg a 3) (dg a 4) (dg a 5) (dg a 6) (dg a 7) (dg a 8) (dg a 9) (dg a 10) (dg (a + 1) 0) (dg (a + 1) 1) (dg (a + 1) 2) (dg (a + 1) 3) (dg (a + 1) 4) (dg (a + 1) 5) (dg (a + 1) 6) (dg (a + 1) 7) (dg (a + 1) 8) (dg (a + 1) 9) (dg (a + 1) 10) := by
  rw [show k + 4 = (k + 3) + 1 from rfl, step7 _ _ _ _ _ _ _ _ _ _ _ _ _ _ _ _ _ _ _ _ _ _ _ _ _ (h 7 (by omega))]
  exact from8 k a t (fun j hj => h j (by omega))

theorem from6 (k : Nat) (a t : Int) (h : ∀ j : Nat, 6 ≤ j → dg a j = dg (a + 1) j) : remontoirlaw01_TickCarries.l1 (k + 5) a t 6 (dg a 0) (dg a 1) (dg a 2) (dg a 3) (dg a 4) (dg a 5) (dg a 6) (dg a 7) (dg a 8) (dg a 9) (dg a 10) (dg (a + 1) 0) (dg (a + 1) 1) (dg (a + 1) 2) (dg (a + 1) 3) (dg (a + 1) 4) (dg (a + 1) 5) (dg (a + 1) 6) (dg (a + 1) 7) (dg (a + 1) 8) (dg (a + 1) 9) (dg (a + 1) 10) = remontoirlaw01_TickCarries.l1 k a t 11 (dg a 0) (dg a 1) (dg a 2) (dg a 3) (dg a 4) (dg a 5) (dg a 6) (dg a 7) (dg a 8) (dg a 9) (dg a 10) (dg (a + 1) 0) (dg (a + 1) 1) (dg (a + 1) 2) (dg (a + 1) 3) (dg (a + 1) 4) (dg (a + 1) 5) (dg (a + 1) 6) (dg (a + 1) 7) (dg (a + 1) 8) (dg (a + 1) 9) (dg (a + 1) 10) := by
  rw [show k + 5 = (k + 4) + 1 from rfl, step6 _ _ _ _ _ _ _ _ _ _ _ _ _ _ _ _ _ _ _ _ _ _ _ _ _ (h 6 (by omega))]
  exact from7 k a t (fun j hj => h j (by omega))

theorem from5 (k : Nat) (a t : Int) (h : ∀ j : Nat, 5 ≤ j → dg a j = dg (a + 1) j) : remontoirlaw01_TickCarries.l1 (k + 6) a t 5 (dg a 0) (dg a 1) (dg a 2) (dg a 3) (dg a 4) (dg a 5) (dg a 6) (dg a 7) (dg a 8) (dg a 9) (dg a 10) (dg (a + 1) 0) (dg (a + 1) 1) (dg (a + 1) 2) (dg (a + 1) 3) (dg (a + 1) 4) (dg (a + 1) 5) (dg (a + 1) 6) (dg (a + 1) 7) (dg (a + 1) 8) (dg (a + 1) 9) (dg (a + 1) 10) = remontoirlaw01_TickCarries.l1 k a t 11 (dg a 0) (dg a 1) (dg a 2) (dg a 3) (dg a 4) (dg a 5) (dg a 6) (dg a 7) (dg a 8) (dg a 9) (dg a 10) (dg (a + 1) 0) (dg (a + 1) 1) (dg (a + 1) 2) (dg (a + 1) 3) (dg (a + 1) 4) (dg (a + 1) 5) (dg (a + 1) 6) (dg (a + 1) 7) (dg (a + 1) 8) (dg (a + 1) 9) (dg (a + 1) 10) := by
  rw [show k + 6 = (k + 5) + 1 from rfl, step5 _ _ _ _ _ _ _ _ _ _ _ _ _ _ _ _ _ _ _ _ _ _ _ _ _ (h 5 (by omega))]
  exact from6 k a t (fun j hj => h j (by omega))

theorem from4 (k : Nat) (a t : Int) (h : ∀ j : Nat, 4 ≤ j → dg a j = dg (a + 1) j) : remontoirlaw01_TickCarries.l1 (k + 7) a t 4 (dg a 0) (dg a 1) (dg a 2) (dg a 3) (dg a 4) (dg a 5) (dg a 6) (dg a 7) (dg a 8) (dg a 9) (dg a 10) (dg (a + 1) 0) (dg (a + 1) 1) (dg (a + 1) 2) (dg (a + 1) 3) (dg (a + 1) 4) (dg (a + 1) 5) (dg (a + 1) 6) (dg (a + 1) 7) (dg (a + 1) 8) (dg (a + 1) 9) (dg (a + 1) 10) = remontoirlaw01_TickCarries.l1 k a t 11 (dg a 0) (dg a 1) (dg a 2) (dg a 3) (dg a 4) (dg a 5) (dg a 6) (dg a 7) (dg a 8) (dg a 9) (dg a 10) (dg (a + 1) 0) (dg (a + 1) 1) (dg (a + 1) 2) (dg (a + 1) 3) (dg (a + 1) 4) (dg (a + 1) 5) (dg (a + 1) 6) (dg (a + 1) 7) (dg (a + 1) 8) (dg (a + 1) 9) (dg (a + 1) 10) := by
  rw [show k + 7 = (k + 6) + 1 from rfl, step4 _ _ _ _ _ _ _ _ _ _ _ _ _ _ _ _ _ _ _ _ _ _ _ _ _ (h 4 (by omega))]
  exact from5 k a t (fun j hj => h j (by omega))

theorem from3 (k : Nat) (a t : Int) (h : ∀ j : Nat, 3 ≤ j → dg a j = dg (a + 1) j) : remontoirlaw01_TickCarries.l1 (k + 8) a t 3 (dg a 0) (dg a 1) (dg a 2) (dg a 3) (dg a 4) (dg a 5) (dg a 6) (dg a 7) (dg a 8) (dg a 9) (dg a 10) (dg (a + 1) 0) (dg (a + 1) 1) (dg (a + 1) 2) (dg (a + 1) 3) (dg (a + 1) 4) (dg (a + 1) 5) (dg (a + 1) 6) (dg (a + 1) 7) (dg (a + 1) 8) (dg (a + 1) 9) (dg (a + 1) 10) = remontoirlaw01_TickCarries.l1 k a t 11 (dg a 0) (dg a 1) (dg a 2) (dg a 3) (dg a 4) (dg a 5) (dg a 6) (dg a 7) (dg a 8) (dg a 9) (dg a 10) (dg (a + 1) 0) (dg (a + 1) 1) (dg (a + 1) 2) (dg (a + 1) 3) (dg (a + 1) 4) (dg (a + 1) 5) (dg (a + 1) 6) (dg (a + 1) 7) (dg (a + 1) 8) (dg (a + 1) 9) (dg (a + 1) 10) := by
  rw [show k + 8 = (k + 7) + 1 from rfl, step3 _ _ _ _ _ _ _ _ _ _ _ _ _ _ _ _ _ _ _ _ _ _ _ _ _ (h 3 (by omega))]
  exact from4 k a t (fun j hj => h j (by omega))

theorem from2 (k : Nat) (a t : Int) (h : ∀ j : Nat, 2 ≤ j → dg a j = dg (a + 1) j) : remontoirlaw01_TickCarries.l1 (k + 9) a t 2 (dg a 0) (dg a 1) (dg a 2) (dg a 3) (dg a 4) (dg a 5) (dg a 6) (dg a 7) (dg a 8) (dg a 9) (dg a 10) (dg (a + 1) 0) (dg (a + 1) 1) (dg (a + 1) 2) (dg (a + 1) 3) (dg (a + 1) 4) (dg (a + 1) 5) (dg (a + 1) 6) (dg (a + 1) 7) (dg (a + 1) 8) (dg (a + 1) 9) (dg (a + 1) 10) = remontoirlaw01_TickCarries.l1 k a t 11 (dg a 0) (dg a 1) (dg a 2) (dg a 3) (dg a 4) (dg a 5) (dg a 6) (dg a 7) (dg a 8) (dg a 9) (dg a 10) (dg (a + 1) 0) (dg (a + 1) 1) (dg (a + 1) 2) (dg (a + 1) 3) (dg (a + 1) 4) (dg (a + 1) 5) (dg (a + 1) 6) (dg (a + 1) 7) (dg (a + 1) 8) (dg (a + 1) 9) (dg (a + 1) 10) := by
  rw [show k + 9 = (k + 8) + 1 from rfl, step2 _ _ _ _ _ _ _ _ _ _ _ _ _ _ _ _ _ _ _ _ _ _ _ _ _ (h 2 (by omega))]
  exact from3 k a t (fun j hj => h j (by omega))

theorem from1 (k : Nat) (a t : Int) (h : ∀ j : Nat, 1 ≤ j → dg a j = dg (a + 1) j) : remontoirlaw01_TickCarries.l1 (k + 10) a t 1 (dg a 0) (dg a 1) (dg a 2) (dg a 3) (dg a 4) (dg a 5) (dg a 6) (dg a 7) (dg a 8) (dg a 9) (dg a 10) (dg (a + 1) 0) (dg (a + 1) 1) (dg (a + 1) 2) (dg (a + 1) 3) (dg (a + 1) 4) (dg (a + 1) 5) (dg (a + 1) 6) (dg (a + 1) 7) (dg (a + 1) 8) (dg (a + 1) 9) (dg (a + 1) 10) = remontoirlaw01_TickCarries.l1 k a t 11 (dg a 0) (dg a 1) (dg a 2) (dg a 3) (dg a 4) (dg a 5) (dg a 6) (dg a 7) (dg a 8) (dg a 9) (dg a 10) (dg (a + 1) 0) (dg (a + 1) 1) (dg (a + 1) 2) (dg (a + 1) 3) (dg (a + 1) 4) (dg (a + 1) 5) (dg (a + 1) 6) (dg (a + 1) 7) (dg (a + 1) 8) (dg (a + 1) 9) (dg (a + 1) 10) := by
  rw [show k + 10 = (k + 9) + 1 from rfl, step1 _ _ _ _ _ _ _ _ _ _ _ _ _ _ _ _ _ _ _ _ _ _ _ _ _ (h 1 (by omega))]
  exact from2 k a t (fun j hj => h j (by omega))

theorem exit0 (k : Nat) (a d0 d1 d2 d3 d4 d5 d6 d7 d8 d9 d10 e0 e1 e2 e3 e4 e5 e6 e7 e8 e9 e10 : Int) (h : e0 = wrap64 (d0 + 1)) (ht : tick_Top.f a (IntKind.u64.wrap (a + 1)) = some 0) : remontoirlaw01_TickCarries.l1 (k + 13) a 0 11 d0 d1 d2 d3 d4 d5 d6 d7 d8 d9 d10 e0 e1 e2 e3 e4 e5 e6 e7 e8 e9 e10 = some true := by
  have wk : remontoirlaw01_wakes.f (k + 12) = some true := wakes k
  rw [show k + 13 = (k + 12) + 1 from rfl, remontoirlaw01_TickCarries.l1, if_neg (by decide), if_pos rfl, if_pos h, ht, Option.bind_some, if_pos rfl, wk]
  rfl

theorem exit1 (k : Nat) (a d0 d1 d2 d3 d4 d5 d6 d7 d8 d9 d10 e0 e1 e2 e3 e4 e5 e6 e7 e8 e9 e10 : Int) (h : e1 = wrap64 (d1 + 1)) (ht : tick_Top.f a (IntKind.u64.wrap (a + 1)) = some 1) : remontoirlaw01_TickCarries.l1 (k + 13) a 1 11 d0 d1 d2 d3 d4 d5 d6 d7 d8 d9 d10 e0 e1 e2 e3 e4 e5 e6 e7 e8 e9 e10 = some true := by
  have wk : remontoirlaw01_wakes.f (k + 12) = some true := wakes k
  rw [show k + 13 = (k + 12) + 1 from rfl, remontoirlaw01_TickCarries.l1, if_neg (by decide), if_neg (by decide), if_pos rfl, if_pos h, ht, Option.bind_some, if_pos rfl, wk]
  rfl

theorem exit2 (k : Nat) (a d0 d1 d2 d3 d4 d5 d6 d7 d8 d9 d10 e0 e1 e2 e3 e4 e5 e6 e7 e8 e9 e10 : Int) (h : e2 = wrap64 (d2 + 1)) (ht : tick_Top.f a (IntKind.u64.wrap (a + 1)) = some 2) : remontoirlaw01_TickCarries.l1 (k + 13) a 2 11 d0 d1 d2 d3 d4 d5 d6 d7 d8 d9 d10 e0 e1 e2 e3 e4 e5 e6 e7 e8 e9 e10 = some true := by
  have wk : remontoirlaw01_wakes.f (k + 12) = some true := wakes k
  rw [show k + 13 = (k + 12) + 1 from rfl, remontoirlaw01_TickCarries.l1, if_neg (by decide), if_neg (by decide), if_neg (by decide), if_pos rfl, if_pos h, ht, Option.bind_some, if_pos rfl, wk]
  rfl

theorem exit3 (k : Nat) (a d0 d1 d2 d3 d4 d5 d6 d7 d8 d9 d10 e0 e1 e2 e3 e4 e5 e6 e7 e8 e9 e10 : Int) (h : e3 = wrap64 (d3 + 1)) (ht : tick_Top.f a (IntKind.u64.wrap (a + 1)) = some 3) : remontoirlaw01_TickCarries.l1 (k + 13) a 3 11 d0 d1 d2 d3 d4 d5 d6 d7 d8 d9 d10 e0 e1 e2 e3 e4 e5 e6 e7 e8 e9 e10 = some true := by
  have wk : remontoirlaw01_wakes.f (k + 12) = some true := wakes k
  rw [show k + 13 = (k + 12) + 1 from rfl, remontoirlaw01_TickCarries.l1, if_neg (by decide), if_neg (by decide), if_neg (by decide), if_neg (by decide), if_pos rfl, if_pos h, ht, Option.bind_some, if_pos rfl, wk]
  rfl

theorem exit4 (k : Nat) (a d0 d1 d2 d3 d4 d5 d6 d7 d8 d9 d10 e0 e1 e2 e3 e4 e5 e6 e7 e8 e9 e10 : Int) (h : e4 = wrap64 (d4 + 1)) (ht : tick_Top.f a (IntKind.u64.wrap (a + 1)) = some 4) : remontoirlaw01_TickCarries.l1 (k + 13) a 4 11 d0 d1 d2 d3 d4 d5 d6 d7 d8 d9 d10 e0 e1 e2 e3 e4 e5 e6 e7 e8 e9 e10 = some true := by
  have wk : remontoirlaw01_wakes.f (k + 12) = some true := wakes k
  rw [show k + 13 = (k + 12) + 1 from rfl, remontoirlaw01_TickCarries.l1, if_neg (by decide), if_neg (by decide), if_neg (by decide), if_neg (by decide), if_neg (by decide), if_pos rfl, if_pos h, ht, Option.bind_some, if_pos rfl, wk]
  rfl

theorem exit5 (k : Nat) (a d0 d1 d2 d3 d4 d5 d6 d7 d8 d9 d10 e0 e1 e2 e3 e4 e5 e6 e7 e8 e9 e10 : Int) (h : e5 = wrap64 (d5 + 1)) (ht : tick_Top.f a (IntKind.u64.wrap (a + 1)) = some 5) : remontoirlaw01_TickCarries.l1 (k + 13) a 5 11 d0 d1 d2 d3 d4 d5 d6 d7 d8 d9 d10 e0 e1 e2 e3 e4 e5 e6 e7 e8 e9 e10 = some true := by
  have wk : remontoirlaw01_wakes.f (k + 12) = some true := wakes k
  rw [show k + 13 = (k + 12) + 1 from rfl, remontoirlaw01_TickCarries.l1, if_neg (by decide), if_neg (by decide), if_neg (by decide), if_neg (by decide), if_neg (by decide), if_neg (by decide), if_pos rfl, if_pos h, ht, Option.bind_some, if_pos rfl, wk]
  rfl

theorem exit6 (k : Nat) (a d0 d1 d2 d3 d4 d5 d6 d7 d8 d9 d10 e0 e1 e2 e3 e4 e5 e6 e7 e8 e9 e10 : Int) (h : e6 = wrap64 (d6 + 1)) (ht : tick_Top.f a (IntKind.u64.wrap (a + 1)) = some 6) : remontoirlaw01_TickCarries.l1 (k + 13) a 6 11 d0 d1 d2 d3 d4 d5 d6 d7 d8 d9 d10 e0 e1 e2 e3 e4 e5 e6 e7 e8 e9 e10 = some true := by
  have wk : remontoirlaw01_wakes.f (k + 12) = some true := wakes k
  rw [show k + 13 = (k + 12) + 1 from rfl, remontoirlaw01_TickCarries.l1, if_neg (by decide), if_neg (by decide), if_neg (by decide), if_neg (by decide), if_neg (by decide), if_neg (by decide), if_neg (by decide), if_pos rfl, if_pos h, ht, Option.bind_some, if_pos rfl, wk]
  rfl

theorem exit7 (k : Nat) (a d0 d1 d2 d3 d4 d5 d6 d7 d8 d9 d10 e0 e1 e2 e3 e4 e5 e6 e7 e8 e9 e10 : Int) (h : e7 = wrap64 (d7 + 1)) (ht : tick_Top.f a (IntKind.u64.wrap (a + 1)) = some 7) : remontoirlaw01_TickCarries.l1 (k + 13) a 7 11 d0 d1 d2 d3 d4 d5 d6 d7 d8 d9 d10 e0 e1 e2 e3 e4 e5 e6 e7 e8 e9 e10 = some true := by
  have wk : remontoirlaw01_wakes.f (k + 12) = some true := wakes k
  rw [show k + 13 = (k + 12) + 1 from rfl, remontoirlaw01_TickCarries.l1, if_neg (by decide), if_neg (by decide), if_neg (by decide), if_neg (by decide), if_neg (by decide), if_neg (by decide), if_neg (by decide), if_neg (by decide), if_pos rfl, if_pos h, ht, Option.bind_some, if_pos rfl, wk]
  rfl

theorem exit8 (k : Nat) (a d0 d1 d2 d3 d4 d5 d6 d7 d8 d9 d10 e0 e1 e2 e3 e4 e5 e6 e7 e8 e9 e10 : Int) (h : e8 = wrap64 (d8 + 1)) (ht : tick_Top.f a (IntKind.u64.wrap (a + 1)) = some 8) : remontoirlaw01_TickCarries.l1 (k + 13) a 8 11 d0 d1 d2 d3 d4 d5 d6 d7 d8 d9 d10 e0 e1 e2 e3 e4 e5 e6 e7 e8 e9 e10 = some true := by
  have wk : remontoirlaw01_wakes.f (k + 12) = some true := wakes k
  rw [show k + 13 = (k + 12) + 1 from rfl, remontoirlaw01_TickCarries.l1, if_neg (by decide), if_neg (by decide), if_neg (by decide), if_neg (by decide), if_neg (by decide), if_neg (by decide), if_neg (by decide), if_neg (by decide), if_neg (by decide), if_pos rfl, if_pos h, ht, Option.bind_some, if_pos rfl, wk]
  rfl

theorem exit9 (k : Nat) (a d0 d1 d2 d3 d4 d5 d6 d7 d8 d9 d10 e0 e1 e2 e3 e4 e5 e6 e7 e8 e9 e10 : Int) (h : e9 = wrap64 (d9 + 1)) (ht : tick_Top.f a (IntKind.u64.wrap (a + 1)) = some 9) : remontoirlaw01_TickCarries.l1 (k + 13) a 9 11 d0 d1 d2 d3 d4 d5 d6 d7 d8 d9 d10 e0 e1 e2 e3 e4 e5 e6 e7 e8 e9 e10 = some true := by
  have wk : remontoirlaw01_wakes.f (k + 12) = some true := wakes k
  rw [show k + 13 = (k + 12) + 1 from rfl, remontoirlaw01_TickCarries.l1, if_neg (by decide), if_neg (by decide), if_neg (by decide), if_neg (by decide), if_neg (by decide), if_neg (by decide), if_neg (by decide), if_neg (by decide), if_neg (by decide), if_neg (by decide), if_pos rfl, if_pos h, ht, Option.bind_some, if_pos rfl, wk]
  rfl

theorem exit10 (k : Nat) (a d0 d1 d2 d3 d4 d5 d6 d7 d8 d9 d10 e0 e1 e2 e3 e4 e5 e6 e7 e8 e9 e10 : Int) (h : e10 = wrap64 (d10 + 1)) (ht : tick_Top.f a (IntKind.u64.wrap (a + 1)) = some 10) : remontoirlaw01_TickCarries.l1 (k + 13) a 10 11 d0 d1 d2 d3 d4 d5 d6 d7 d8 d9 d10 e0 e1 e2 e3 e4 e5 e6 e7 e8 e9 e10 = some true := by
  have wk : remontoirlaw01_wakes.f (k + 12) = some true := wakes k
  rw [show k + 13 = (k + 12) + 1 from rfl, remontoirlaw01_TickCarries.l1, if_neg (by decide), if_neg (by decide), if_neg (by decide), if_neg (by decide), if_neg (by decide), if_neg (by decide), if_neg (by decide), if_neg (by decide), if_neg (by decide), if_neg (by decide), if_neg (by decide), if_pos rfl, if_pos h, ht, Option.bind_some, if_pos rfl, wk]
  rfl

theorem carry {a : Int} {i : Nat} (h : q i (a + 1) = q i a + 1) : (dg a i = 63 → dg (a + 1) i = 0 ∧ q (i + 1) (a + 1) = q (i + 1) a + 1) ∧ (dg a i ≠ 63 → dg (a + 1) i = wrap64 (dg a i + 1) ∧ q (i + 1) a = q (i + 1) (a + 1)) := by
  unfold dg wrap64
  show (_ → _ ∧ q i (a + 1) / 64 = q i a / 64 + 1) ∧ (_ → _ ∧ q i a / 64 = q i (a + 1) / 64)
  rw [h]
  generalize q i a = x
  constructor
  · intro hx
    exact ⟨by omega, by omega⟩
  · intro hx
    exact ⟨by omega, by omega⟩
theorem is_top {a : Int} (ha : U a) (h1 : a < 18446744073709551615) {i : Nat} (hi : i ≤ 10) (h : q i (a + 1) = q i a + 1) (h2 : q (i + 1) a = q (i + 1) (a + 1)) : tick_Top.f a (IntKind.u64.wrap (a + 1)) = some (i : Int) := by
  have ha' := ha
  unfold U at ha'
  rw [show IntKind.u64.wrap (a + 1) = a + 1 by rw [IntKind.wrap_u64]; omega]
  obtain ⟨t, t1, t2⟩ := top ha (b := a + 1) (by unfold U; omega)
  rw [t1]
  congr 1
  refine t2.unique (.inr ⟨by omega, by omega, ?_, ?_⟩)
  · rw [Int.toNat_natCast]; exact h2
  · rw [Int.toNat_natCast, h]; omega

theorem stop10 (a : Int) (ha : U a) (h1 : a < 18446744073709551615) (h : q 10 (a + 1) = q 10 a + 1) (hd : dg a 10 ≠ 63) : remontoirlaw01_TickCarries.j1 41 a 10 false (dg a 0) (dg a 1) (dg a 2) (dg a 3) (dg a 4) (dg a 5) (dg a 6) (dg a 7) (dg a 8) (dg a 9) (dg a 10) (dg (a + 1) 0) (dg (a + 1) 1) (dg (a + 1) 2) (dg (a + 1) 3) (dg (a + 1) 4) (dg (a + 1) 5) (dg (a + 1) 6) (dg (a + 1) 7) (dg (a + 1) 8) (dg (a + 1) 9) (dg (a + 1) 10) = some true := by
  have hc := (carry (i := 10) h).2 hd
  rw [show (41 : Nat) = 40 + 1 from rfl, remontoirlaw01_TickCarries.j1, if_neg (by decide), show wrap64 ((10 : Int) + 1) = 11 by decide +kernel, show (40 : Nat) = 40 + 0 from rfl, from11]
  exact exit10 27 a (dg a 0) (dg a 1) (dg a 2) (dg a 3) (dg a 4) (dg a 5) (dg a 6) (dg a 7) (dg a 8) (dg a 9) (dg a 10) (dg (a + 1) 0) (dg (a + 1) 1) (dg (a + 1) 2) (dg (a + 1) 3) (dg (a + 1) 4) (dg (a + 1) 5) (dg (a + 1) 6) (dg (a + 1) 7) (dg (a + 1) 8) (dg (a + 1) 9) (dg (a + 1) 10) hc.1 (is_top ha h1 (i := 10) (by decide) h hc.2)

theorem at10 (a : Int) (ha : U a) (h1 : a < 18446744073709551615) (h : q 10 (a + 1) = q 10 a + 1) : remontoirlaw01_TickCarries.l0 42 a 10 (dg a 0) (dg a 1) (dg a 2) (dg a 3) (dg a 4) (dg a 5) (dg a 6) (dg a 7) (dg a 8) (dg a 9) (dg a 10) (dg (a + 1) 0) (dg (a + 1) 1) (dg (a + 1) 2) (dg (a + 1) 3) (dg (a + 1) 4) (dg (a + 1) 5) (dg (a + 1) 6) (dg (a + 1) 7) (dg (a + 1) 8) (dg (a + 1) 9) (dg (a + 1) 10) = some true := by
  have hd : dg a 10 ≠ 63 := by have := good_dgs ha; unfold Core.Good at this; omega
  rw [show (42 : Nat) = 41 + 1 from rfl, remontoirlaw01_TickCarries.l0, if_neg (by decide)]
  exact stop10 a ha h1 h hd

theorem stop9 (a : Int) (ha : U a) (h1 : a < 18446744073709551615) (h : q 9 (a + 1) = q 9 a + 1) (hd : dg a 9 ≠ 63) : remontoirlaw01_TickCarries.j1 43 a 9 false (dg a 0) (dg a 1) (dg a 2) (dg a 3) (dg a 4) (dg a 5) (dg a 6) (dg a 7) (dg a 8) (dg a 9) (dg a 10) (dg (a + 1) 0) (dg (a + 1) 1) (dg (a + 1) 2) (dg (a + 1) 3) (dg (a + 1) 4) (dg (a + 1) 5) (dg (a + 1) 6) (dg (a + 1) 7) (dg (a + 1) 8) (dg (a + 1) 9) (dg (a + 1) 10) = some true := by
  have hc := (carry (i := 9) h).2 hd
  rw [show (43 : Nat) = 42 + 1 from rfl, remontoirlaw01_TickCarries.j1, if_neg (by decide), show wrap64 ((9 : Int) + 1) = 10 by decide +kernel, show (42 : Nat) = 41 + 1 from rfl, from10 _ _ _ (fun j hj => digs hc.2 hj)]
  exact exit9 28 a (dg a 0) (dg a 1) (dg a 2) (dg a 3) (dg a 4) (dg a 5) (dg a 6) (dg a 7) (dg a 8) (dg a 9) (dg a 10) (dg (a + 1) 0) (dg (a + 1) 1) (dg (a + 1) 2) (dg (a + 1) 3) (dg (a + 1) 4) (dg (a + 1) 5) (dg (a + 1) 6) (dg (a + 1) 7) (dg (a + 1) 8) (dg (a + 1) 9) (dg (a + 1) 10) hc.1 (is_top ha h1 (i := 9) (by decide) h hc.2)

theorem at9 (a : Int) (ha : U a) (h1 : a < 18446744073709551615) (h : q 9 (a + 1) = q 9 a + 1) : remontoirlaw01_TickCarries.l0 44 a 9 (dg a 0) (dg a 1) (dg a 2) (dg a 3) (dg a 4) (dg a 5) (dg a 6) (dg a 7) (dg a 8) (dg a 9) (dg a 10) (dg (a + 1) 0) (dg (a + 1) 1) (dg (a + 1) 2) (dg (a + 1) 3) (dg (a + 1) 4) (dg (a + 1) 5) (dg (a + 1) 6) (dg (a + 1) 7) (dg (a + 1) 8) (dg (a + 1) 9) (dg (a + 1) 10) = some true := by
  rw [show (44 : Nat) = 43 + 1 from rfl, remontoirlaw01_TickCarries.l0, if_pos (by decide), if_neg (by decide), if_neg (by decide), if_neg (by decide), if_neg (by decide), if_neg (by decide), if_neg (by decide), if_neg (by decide), if_neg (by decide), if_neg (by decide), if_pos rfl]
  by_cases hd : dg a 9 = 63
  · have hc := (carry (i := 9) h).1 hd
    rw [beq_iff_eq.2 hd, show (43 : Nat) = 42 + 1 from rfl, remontoirlaw01_TickCarries.j1, if_pos rfl, if_neg (by decide), if_neg (by decide), if_neg (by decide), if_neg (by decide), if_neg (by decide), if_neg (by decide), if_neg (by decide), if_neg (by decide), if_neg (by decide), if_pos rfl, if_pos hc.1, show wrap64 ((9 : Int) + 1) = 10 by decide +kernel]
    exact at10 a ha h1 hc.2
  · rw [beq_eq_false_iff_ne.2 hd]
    exact stop9 a ha h1 h hd

theorem stop8 (a : Int) (ha : U a) (h1 : a < 18446744073709551615) (h : q 8 (a + 1) = q 8 a + 1) (hd : dg a 8 ≠ 63) : remontoirlaw01_TickCarries.j1 45 a 8 false (dg a 0) (dg a 1) (dg a 2) (dg a 3) (dg a 4) (dg a 5) (dg a 6) (dg a 7) (dg a 8) (dg a 9) (dg a 10) (dg (a + 1) 0) (dg (a + 1) 1) (dg (a + 1) 2) (dg (a + 1) 3) (dg (a + 1) 4) (dg (a + 1) 5) (dg (a + 1) 6) (dg (a + 1) 7) (dg (a + 1) 8) (dg (a + 1) 9) (dg (a + 1) 10) = some true := by
  have hc := (carry (i := 8) h).2 hd
  rw [show (45 : Nat) = 44 + 1 from rfl, remontoirlaw01_TickCarries.j1, if_neg (by decide), show wrap64 ((8 : Int) + 1) = 9 by decide +kernel, show (44 : Nat) = 42 + 2 from rfl, from9 _ _ _ (fun j hj => digs hc.2 hj)]
  exact exit8 29 a (dg a 0) (dg a 1) (dg a 2) (dg a 3) (dg a 4) (dg a 5) (dg a 6) (dg a 7) (dg a 8) (dg a 9) (dg a 10) (dg (a + 1) 0) (dg (a + 1) 1) (dg (a + 1) 2) (dg (a + 1) 3) (dg (a + 1) 4) (dg (a + 1) 5) (dg (a + 1) 6) (dg (a + 1) 7) (dg (a + 1) 8) (dg (a + 1) 9) (dg (a + 1) 10) hc.1 (is_top ha h1 (i := 8) (by decide) h hc.2)

theorem at8 (a : Int) (ha : U a) (h1 : a < 18446744073709551615) (h : q 8 (a + 1) = q 8 a + 1) : remontoirlaw01_TickCarries.l0 46 a 8 (dg a 0) (dg a 1) (dg a 2) (dg a 3) (dg a 4) (dg a 5) (dg a 6) (dg a 7) (dg a 8) (dg a 9) (dg a 10) (dg (a + 1) 0) (dg (a + 1) 1) (dg (a + 1) 2) (dg (a + 1) 3) (dg (a + 1) 4) (dg (a + 1) 5) (dg (a + 1) 6) (dg (a + 1) 7) (dg (a + 1) 8) (dg (a + 1) 9) (dg (a + 1) 10) = some true := by
  rw [show (46 : Nat) = 45 + 1 from rfl, remontoirlaw01_TickCarries.l0, if_pos (by decide), if_neg (by decide), if_neg (by decide), if_neg (by decide), if_neg (by decide), if_neg (by decide), if_neg (by decide), if_neg (by decide), if_neg (by decide), if_pos rfl]
  by_cases hd : dg a 8 = 63
  · have hc := (carry (i := 8) h).1 hd
    rw [beq_iff_eq.2 hd, show (45 : Nat) = 44 + 1 from rfl, remontoirlaw01_TickCarries.j1, if_pos rfl, if_neg (by decide), if_neg (by decide), if_neg (by decide), if_neg (by decide), if_neg (by decide), if_neg (by decide), if_neg (by decide), if_neg (by decide), if_pos rfl, if_pos hc.1, show wrap64 ((8 : Int) + 1) = 9 by decide +kernel]
    exact at9 a ha h1 hc.2
  · rw [beq_eq_false_iff_ne.2 hd]
    exact stop8 a ha h1 h hd

theorem stop7 (a : Int) (ha : U a) (h1 : a < 18446744073709551615) (h : q 7 (a + 1) = q 7 a + 1) (hd : dg a 7 ≠ 63) : remontoirlaw01_TickCarries.j1 47 a 7 false (dg a 0) (dg a 1) (dg a 2) (dg a 3) (dg a 4) (dg a 5) (dg a 6) (dg a 7) (dg a 8) (dg a 9) (dg a 10) (dg (a + 1) 0) (dg (a + 1) 1) (dg (a + 1) 2) (dg (a + 1) 3) (dg (a + 1) 4) (dg (a + 1) 5) (dg (a + 1) 6) (dg (a + 1) 7) (dg (a + 1) 8) (dg (a + 1) 9) (dg (a + 1) 10) = some true := by
  have hc := (carry (i := 7) h).2 hd
  rw [show (47 : Nat) = 46 + 1 from rfl, remontoirlaw01_TickCarries.j1, if_neg (by decide), show wrap64 ((7 : Int) + 1) = 8 by decide +kernel, show (46 : Nat) = 43 + 3 from rfl, from8 _ _ _ (fun j hj => digs hc.2 hj)]
  exact exit7 30 a (dg a 0) (dg a 1) (dg a 2) (dg a 3) (dg a 4) (dg a 5) (dg a 6) (dg a 7) (dg a 8) (dg a 9) (dg a 10) (dg (a + 1) 0) (dg (a + 1) 1) (dg (a + 1) 2) (dg (a + 1) 3) (dg (a + 1) 4) (dg (a + 1) 5) (dg (a + 1) 6) (dg (a + 1) 7) (dg (a + 1) 8) (dg (a + 1) 9) (dg (a + 1) 10) hc.1 (is_top ha h1 (i := 7) (by decide) h hc.2)

theorem at7 (a : Int) (ha : U a) (h1 : a < 18446744073709551615) (h : q 7 (a + 1) = q 7 a + 1) : remontoirlaw01_TickCarries.l0 48 a 7 (dg a 0) (dg a 1) (dg a 2) (dg a 3) (dg a 4) (dg a 5) (dg a 6) (dg a 7) (dg a 8) (dg a 9) (dg a 10) (dg (a + 1) 0) (dg (a + 1) 1) (dg (a + 1) 2) (dg (a + 1) 3) (dg (a + 1) 4) (dg (a + 1) 5) (dg (a + 1) 6) (dg (a + 1) 7) (dg (a + 1) 8) (dg (a + 1) 9) (dg (a + 1) 10) = some true := by
  rw [show (48 : Nat) = 47 + 1 from rfl, remontoirlaw01_TickCarries.l0, if_pos (by decide), if_neg (by decide), if_neg (by decide), if_neg (by decide), if_neg (by decide), if_neg (by decide), if_neg (by decide), if_neg (by decide), if_pos rfl]
  by_cases hd : dg a 7 = 63
  · have hc := (carry (i := 7) h).1 hd
    rw [beq_iff_eq.2 hd, show (47 : Nat) = 46 + 1 from rfl, remontoirlaw01_TickCarries.j1, if_pos rfl, if_neg (by decide), if_neg (by decide), if_neg (by decide), if_neg (by decide), if_neg (by decide), if_neg (by decide), if_neg (by decide), if_pos rfl, if_pos hc.1, show wrap64 ((7 : Int) + 1) = 8 by decide +kernel]
    exact at8 a ha h1 hc.2
  · rw [beq_eq_false_iff_ne.2 hd]
    exact stop7 a ha h1 h hd

theorem stop6 (a : Int) (ha : U a) (h1 : a < 18446744073709551615) (h : q 6 (a + 1) = q 6 a + 1) (hd : dg a 6 ≠ 63) : remontoirlaw01_TickCarries.j1 49 a 6 false (dg a 0) (dg a 1) (dg a 2) (dg a 3) (dg a 4) (dg a 5) (dg a 6) (dg a 7) (dg a 8) (dg a 9) (dg a 10) (dg (a + 1) 0) (dg (a + 1) 1) (dg (a + 1) 2) (dg (a + 1) 3) (dg (a + 1) 4) (dg (a + 1) 5) (dg (a + 1) 6) (dg (a + 1) 7) (dg (a + 1) 8) (dg (a + 1) 9) (dg (a + 1) 10) = some true := by
  have hc := (carry (i := 6) h).2 hd
  rw [show (49 : Nat) = 48 + 1 from rfl, remontoirlaw01_TickCarries.j1, if_neg (by decide), show wrap64 ((6 : Int) + 1) = 7 by decide +kernel, show (48 : Nat) = 44 + 4 from rfl, from7 _ _ _ (fun j hj => digs hc.2 hj)]
  exact exit6 31 a (dg a 0) (dg a 1) (dg a 2) (dg a 3) (dg a 4) (dg a 5) (dg a 6) (dg a 7) (dg a 8) (dg a 9) (dg a 10) (dg (a + 1) 0) (dg (a + 1) 1) (dg (a + 1) 2) (dg (a + 1) 3) (dg (a + 1) 4) (dg (a + 1) 5) (dg (a + 1) 6) (dg (a + 1) 7) (dg (a + 1) 8) (dg (a + 1) 9) (dg (a + 1) 10) hc.1 (is_top ha h1 (i := 6) (by decide) h hc.2)

theorem at6 (a : Int) (ha : U a) (h1 : a < 18446744073709551615) (h : q 6 (a + 1) = q 6 a + 1) : remontoirlaw01_TickCarries.l0 50 a 6 (dg a 0) (dg a 1) (dg a 2) (dg a 3) (dg a 4) (dg a 5) (dg a 6) (dg a 7) (dg a 8) (dg a 9) (dg a 10) (dg (a + 1) 0) (dg (a + 1) 1) (dg (a + 1) 2) (dg (a + 1) 3) (dg (a + 1) 4) (dg (a + 1) 5) (dg (a + 1) 6) (dg (a + 1) 7) (dg (a + 1) 8) (dg (a + 1) 9) (dg (a + 1) 10) = some true := by
  rw [show (50 : Nat) = 49 + 1 from rfl, remontoirlaw01_TickCarries.l0, if_pos (by decide), if_neg (by decide), if_neg (by decide), if_neg (by decide), if_neg (by decide), if_neg (by decide), if_neg (by decide), if_pos rfl]
  by_cases hd : dg a 6 = 63
  · have hc := (carry (i := 6) h).1 hd
    rw [beq_iff_eq.2 hd, show (49 : Nat) = 48 + 1 from rfl, remontoirlaw01_TickCarries.j1, if_pos rfl, if_neg (by decide), if_neg (by decide), if_neg (by decide), if_neg (by decide), if_neg (by decide), if_neg (by decide), if_pos rfl, if_pos hc.1, show wrap64 ((6 : Int) + 1) = 7 by decide +kernel]
    exact at7 a ha h1 hc.2
  · rw [beq_eq_false_iff_ne.2 hd]
    exact stop6 a ha h1 h hd

theorem stop5 (a : Int) (ha : U a) (h1 : a < 18446744073709551615) (h : q 5 (a + 1) = q 5 a + 1) (hd : dg a 5 ≠ 63) : remontoirlaw01_TickCarries.j1 51 a 5 false (dg a 0) (dg a 1) (dg a 2) (dg a 3) (dg a 4) (dg a 5) (dg a 6) (dg a 7) (dg a 8) (dg a 9) (dg a 10) (dg (a + 1) 0) (dg (a + 1) 1) (dg (a + 1) 2) (dg (a + 1) 3) (dg (a + 1) 4) (dg (a + 1) 5) (dg (a + 1) 6) (dg (a + 1) 7) (dg (a + 1) 8) (dg (a + 1) 9) (dg (a + 1) 10) = some true := by
  have hc := (carry (i := 5) h).2 hd
  rw [show (51 : Nat) = 50 + 1 from rfl, remontoirlaw01_TickCarries.j1, if_neg (by decide), show wrap64 ((5 : Int) + 1) = 6 by decide +kernel, show (50 : Nat) = 45 + 5 from rfl, from6 _ _ _ (fun j hj => digs hc.2 hj)]
  exact exit5 32 a (dg a 0) (dg a 1) (dg a 2) (dg a 3) (dg a 4) (dg a 5) (dg a 6) (dg a 7) (dg a 8) (dg a 9) (dg a 10) (dg (a + 1) 0) (dg (a + 1) 1) (dg (a + 1) 2) (dg (a + 1) 3) (dg (a + 1) 4) (dg (a + 1) 5) (dg (a + 1) 6) (dg (a + 1) 7) (dg (a + 1) 8) (dg (a + 1) 9) (dg (a + 1) 10) hc.1 (is_top ha h1 (i := 5) (by decide) h hc.2)

theorem at5 (a : Int) (ha : U a) (h1 : a < 18446744073709551615) (h : q 5 (a + 1) = q 5 a + 1) : remontoirlaw01_TickCarries.l0 52 a 5 (dg a 0) (dg a 1) (dg a 2) (dg a 3) (dg a 4) (dg a 5) (dg a 6) (dg a 7) (dg a 8) (dg a 9) (dg a 10) (dg (a + 1) 0) (dg (a + 1) 1) (dg (a + 1) 2) (dg (a + 1) 3) (dg (a + 1) 4) (dg (a + 1) 5) (dg (a + 1) 6) (dg (a + 1) 7) (dg (a + 1) 8) (dg (a + 1) 9) (dg (a + 1) 10) = some true := by
  rw [show (52 : Nat) = 51 + 1 from rfl, remontoirlaw01_TickCarries.l0, if_pos (by decide), if_neg (by decide), if_neg (by decide), if_neg (by decide), if_neg (by decide), if_neg (by decide), if_pos rfl]
  by_cases hd : dg a 5 = 63
  · have hc := (carry (i := 5) h).1 hd
    rw [beq_iff_eq.2 hd, show (51 : Nat) = 50 + 1 from rfl, remontoirlaw01_TickCarries.j1, if_pos rfl, if_neg (by decide), if_neg (by decide), if_neg (by decide), if_neg (by decide), if_neg (by decide), if_pos rfl, if_pos hc.1, show wrap64 ((5 : Int) + 1) = 6 by decide +kernel]
    exact at6 a ha h1 hc.2
  · rw [beq_eq_false_iff_ne.2 hd]
    exact stop5 a ha h1 h hd

theorem stop4 (a : Int) (ha : U a) (h1 : a < 18446744073709551615) (h : q 4 (a + 1) = q 4 a + 1) (hd : dg a 4 ≠ 63) : remontoirlaw01_TickCarries.j1 53 a 4 false (dg a 0) (dg a 1) (dg a 2) (dg a 3) (dg a 4) (dg a 5) (dg a 6) (dg a 7) (dg a 8) (dg a 9) (dg a 10) (dg (a + 1) 0) (dg (a + 1) 1) (dg (a + 1) 2) (dg (a + 1) 3) (dg (a + 1) 4) (dg (a + 1) 5) (dg (a + 1) 6) (dg (a + 1) 7) (dg (a + 1) 8) (dg (a + 1) 9) (dg (a + 1) 10) = some true := by
  have hc := (carry (i := 4) h).2 hd
  rw [show (53 : Nat) = 52 + 1 from rfl, remontoirlaw01_TickCarries.j1, if_neg (by decide), show wrap64 ((4 : Int) + 1) = 5 by decide +kernel, show (52 : Nat) = 46 + 6 from rfl, from5 _ _ _ (fun j hj => digs hc.2 hj)]
  exact exit4 33 a (dg a 0) (dg a 1) (dg a 2) (dg a 3) (dg a 4) (dg a 5) (dg a 6) (dg a 7) (dg a 8) (dg a 9) (dg a 10) (dg (a + 1) 0) (dg (a + 1) 1) (dg (a + 1) 2) (dg (a + 1) 3) (dg (a + 1) 4) (dg (a + 1) 5) (dg (a + 1) 6) (dg (a + 1) 7) (dg (a + 1) 8) (dg (a + 1) 9) (dg (a + 1) 10) hc.1 (is_top ha h1 (i := 4) (by decide) h hc.2)

theorem at4 (a : Int) (ha : U a) (h1 : a < 18446744073709551615) (h : q 4 (a + 1) = q 4 a + 1) : remontoirlaw01_TickCarries.l0 54 a 4 (dg a 0) (dg a 1) (dg a 2) (dg a 3) (dg a 4) (dg a 5) (dg a 6) (dg a 7) (dg a 8) (dg a 9) (dg a 10) (dg (a + 1) 0) (dg (a + 1) 1) (dg (a + 1) 2) (dg (a + 1) 3) (dg (a + 1) 4) (dg (a + 1) 5) (dg (a + 1) 6) (dg (a + 1) 7) (dg (a + 1) 8) (dg (a + 1) 9) (dg (a + 1) 10) = some true := by
  rw [show (54 : Nat) = 53 + 1 from rfl, remontoirlaw01_TickCarries.l0, if_pos (by decide), if_neg (by decide), if_neg (by decide), if_neg (by decide), if_neg (by decide), if_pos rfl]
  by_cases hd : dg a 4 = 63
  · have hc := (carry (i := 4) h).1 hd
    rw [beq_iff_eq.2 hd, show (53 : Nat) = 52 + 1 from rfl, remontoirlaw01_TickCarries.j1, if_pos rfl, if_neg (by decide), if_neg (by decide), if_neg (by decide), if_neg (by decide), if_pos rfl, if_pos hc.1, show wrap64 ((4 : Int) + 1) = 5 by decide +kernel]
    exact at5 a ha h1 hc.2
  · rw [beq_eq_false_iff_ne.2 hd]
    exact stop4 a ha h1 h hd

theorem stop3 (a : Int) (ha : U a) (h1 : a < 18446744073709551615) (h : q 3 (a + 1) = q 3 a + 1) (hd : dg a 3 ≠ 63) : remontoirlaw01_TickCarries.j1 55 a 3 false (dg a 0) (dg a 1) (dg a 2) (dg a 3) (dg a 4) (dg a 5) (dg a 6) (dg a 7) (dg a 8) (dg a 9) (dg a 10) (dg (a + 1) 0) (dg (a + 1) 1) (dg (a + 1) 2) (dg (a + 1) 3) (dg (a + 1) 4) (dg (a + 1) 5) (dg (a + 1) 6) (dg (a + 1) 7) (dg (a + 1) 8) (dg (a + 1) 9) (dg (a + 1) 10) = some true := by
  have hc := (carry (i := 3) h).2 hd
  rw [show (55 : Nat) = 54 + 1 from rfl, remontoirlaw01_TickCarries.j1, if_neg (by decide), show wrap64 ((3 : Int) + 1) = 4 by decide +kernel, show (54 : Nat) = 47 + 7 from rfl, from4 _ _ _ (fun j hj => digs hc.2 hj)]
  exact exit3 34 a (dg a 0) (dg a 1) (dg a 2) (dg a 3) (dg a 4) (dg a 5) (dg a 6) (dg a 7) (dg a 8) (dg a 9) (dg a 10) (dg (a + 1) 0) (dg (a + 1) 1) (dg (a + 1) 2) (dg (a + 1) 3) (dg (a + 1) 4) (dg (a + 1) 5) (dg (a + 1) 6) (dg (a + 1) 7) (dg (a + 1) 8) (dg (a + 1) 9) (dg (a + 1) 10) hc.1 (is_top ha h1 (i := 3) (by decide) h hc.2)

theorem at3 (a : Int) (ha : U a) (h1 : a < 18446744073709551615) (h : q 3 (a + 1) = q 3 a + 1) : remontoirlaw01_TickCarries.l0 56 a 3 (dg a 0) (dg a 1) (dg a 2) (dg a 3) (dg a 4) (dg a 5) (dg a 6) (dg a 7) (dg a 8) (dg a 9) (dg a 10) (dg (a + 1) 0) (dg (a + 1) 1) (dg (a + 1) 2) (dg (a + 1) 3) (dg (a + 1) 4) (dg (a + 1) 5) (dg (a + 1) 6) (dg (a + 1) 7) (dg (a + 1) 8) (dg (a + 1) 9) (dg (a + 1) 10) = some true := by
  rw [show (56 : Nat) = 55 + 1 from rfl, remontoirlaw01_TickCarries.l0, if_pos (by decide), if_neg (by decide), if_neg (by decide), if_neg (by decide), if_pos rfl]
  by_cases hd : dg a 3 = 63
  · have hc := (carry (i := 3) h).1 hd
    rw [beq_iff_eq.2 hd, show (55 : Nat) = 54 + 1 from rfl, remontoirlaw01_TickCarries.j1, if_pos rfl, if_neg (by decide), if_neg (by decide), if_neg (by decide), if_pos rfl, if_pos hc.1, show wrap64 ((3 : Int) + 1) = 4 by decide +kernel]
    exact at4 a ha h1 hc.2
  · rw [beq_eq_false_iff_ne.2 hd]
    exact stop3 a ha h1 h hd

theorem stop2 (a : Int) (ha : U a) (h1 : a < 18446744073709551615) (h : q 2 (a + 1) = q 2 a + 1) (hd : dg a 2 ≠ 63) : remontoirlaw01_TickCarries.j1 57 a 2 false (dg a 0) (dg a 1) (dg a 2) (dg a 3) (dg a 4) (dg a 5) (dg a 6) (dg a 7) (dg a 8) (dg a 9) (dg a 10) (dg (a + 1) 0) (dg (a + 1) 1) (dg (a + 1) 2) (dg (a + 1) 3) (dg (a + 1) 4) (dg (a + 1) 5) (dg (a + 1) 6) (dg (a + 1) 7) (dg (a + 1) 8) (dg (a + 1) 9) (dg (a + 1) 10) = some true := by
  have hc := (carry (i := 2) h).2 hd
  rw [show (57 : Nat) = 56 + 1 from rfl, remontoirlaw01_TickCarries.j1, if_neg (by decide), show wrap64 ((2 : Int) + 1) = 3 by decide +kernel, show (56 : Nat) = 48 + 8 from rfl, from3 _ _ _ (fun j hj => digs hc.2 hj)]
  exact exit2 35 a (dg a 0) (dg a 1) (dg a 2) (dg a 3) (dg a 4) (dg a 5) (dg a 6) (dg a 7) (dg a 8) (dg a 9) (dg a 10) (dg (a + 1) 0) (dg (a + 1) 1) (dg (a + 1) 2) (dg (a + 1) 3) (dg (a + 1) 4) (dg (a + 1) 5) (dg (a + 1) 6) (dg (a + 1) 7) (dg (a + 1) 8) (dg (a + 1) 9) (dg (a + 1) 10) hc.1 (is_top ha h1 (i := 2) (by decide) h hc.2)

theorem at2 (a : Int) (ha : U a) (h1 : a < 18446744073709551615) (h : q 2 (a + 1) = q 2 a + 1) : remontoirlaw01_TickCarries.l0 58 a 2 (dg a 0) (dg a 1) (dg a 2) (dg a 3) (dg a 4) (dg a 5) (dg a 6) (dg a 7) (dg a 8) (dg a 9) (dg a 10) (dg (a + 1) 0) (dg (a + 1) 1) (dg (a + 1) 2) (dg (a + 1) 3) (dg (a + 1) 4) (dg (a + 1) 5) (dg (a + 1) 6) (dg (a + 1) 7) (dg (a + 1) 8) (dg (a + 1) 9) (dg (a + 1) 10) = some true := by
  rw [show (58 : Nat) = 57 + 1 from rfl, remontoirlaw01_TickCarries.l0, if_pos (by decide), if_neg (by decide), if_neg (by decide), if_pos rfl]
  by_cases hd : dg a 2 = 63
  · have hc := (carry (i := 2) h).1 hd
    rw [beq_iff_eq.2 hd, show (57 : Nat) = 56 + 1 from rfl, remontoirlaw01_TickCarries.j1, if_pos rfl, if_neg (by decide), if_neg (by decide), if_pos rfl, if_pos hc.1, show wrap64 ((2 : Int) + 1) = 3 by decide +kernel]
    exact at3 a ha h1 hc.2
  · rw [beq_eq_false_iff_ne.2 hd]
    exact stop2 a ha h1 h hd

theorem stop1 (a : Int) (ha : U a) (h1 : a < 18446744073709551615) (h : q 1 (a + 1) = q 1 a + 1) (hd : dg a 1 ≠ 63) : remontoirlaw01_TickCarries.j1 59 a 1 false (dg a 0) (dg a 1) (dg a 2) (dg a 3) (dg a 4) (dg a 5) (dg a 6) (dg a 7) (dg a 8) (dg a 9) (dg a 10) (dg (a + 1) 0) (dg (a + 1) 1) (dg (a + 1) 2) (dg (a + 1) 3) (dg (a + 1) 4) (dg (a + 1) 5) (dg (a + 1) 6) (dg (a + 1) 7) (dg (a + 1) 8) (dg (a + 1) 9) (dg (a + 1) 10) = some true := by
  have hc := (carry (i := 1) h).2 hd
  rw [show (59 : Nat) = 58 + 1 from rfl, remontoirlaw01_TickCarries.j1, if_neg (by decide), show wrap64 ((1 : Int) + 1) = 2 by decide +kernel, show (58 : Nat) = 49 + 9 from rfl, from2 _ _ _ (fun j hj => digs hc.2 hj)]
  exact exit1 36 a (dg a 0) (dg a 1) (dg a 2) (dg a 3) (dg a 4) (dg a 5) (dg a 6) (dg a 7) (dg a 8) (dg a 9) (dg a 10) (dg (a + 1) 0) (dg (a + 1) 1) (dg (a + 1) 2) (dg (a + 1) 3) (dg (a + 1) 4) (dg (a + 1) 5) (dg (a + 1) 6) (dg (a + 1) 7) (dg (a + 1) 8) (dg (a + 1) 9) (dg (a + 1) 10) hc.1 (is_top ha h1 (i := 1) (by decide) h hc.2)

theorem at1 (a : Int) (ha : U a) (h1 : a < 18446744073709551615) (h : q 1 (a + 1) = q 1 a + 1) : remontoirlaw01_TickCarries.l0 60 a 1 (dg a 0) (dg a 1) (dg a 2) (dg a 3) (dg a 4) (dg a 5) (dg a 6) (dg a 7) (dg a 8) (dg a 9) (dg a 10) (dg (a + 1) 0) (dg (a + 1) 1) (dg (a + 1) 2) (dg (a + 1) 3) (dg (a + 1) 4) (dg (a + 1) 5) (dg (a + 1) 6) (dg (a + 1) 7) (dg (a + 1) 8) (dg (a + 1) 9) (dg (a + 1) 10) = some true := by
  rw [show (60 : Nat) = 59 + 1 from rfl, remontoirlaw01_TickCarries.l0, if_pos (by decide), if_neg (by decide), if_pos rfl]
  by_cases hd : dg a 1 = 63
  · have hc := (carry (i := 1) h).1 hd
    rw [beq_iff_eq.2 hd, show (59 : Nat) = 58 + 1 from rfl, remontoirlaw01_TickCarries.j1, if_pos rfl, if_neg (by decide), if_pos rfl, if_pos hc.1, show wrap64 ((1 : Int) + 1) = 2 by decide +kernel]
    exact at2 a ha h1 hc.2
  · rw [beq_eq_false_iff_ne.2 hd]
    exact stop1 a ha h1 h hd

theorem stop0 (a : Int) (ha : U a) (h1 : a < 18446744073709551615) (h : q 0 (a + 1) = q 0 a + 1) (hd : dg a 0 ≠ 63) : remontoirlaw01_TickCarries.j1 61 a 0 false (dg a 0) (dg a 1) (dg a 2) (dg a 3) (dg a 4) (dg a 5) (dg a 6) (dg a 7) (dg a 8) (dg a 9) (dg a 10) (dg (a + 1) 0) (dg (a + 1) 1) (dg (a + 1) 2) (dg (a + 1) 3) (dg (a + 1) 4) (dg (a + 1) 5) (dg (a + 1) 6) (dg (a + 1) 7) (dg (a + 1) 8) (dg (a + 1) 9) (dg (a + 1) 10) = some true := by
  have hc := (carry (i := 0) h).2 hd
  rw [show (61 : Nat) = 60 + 1 from rfl, remontoirlaw01_TickCarries.j1, if_neg (by decide), show wrap64 ((0 : Int) + 1) = 1 by decide +kernel, show (60 : Nat) = 50 + 10 from rfl, from1 _ _ _ (fun j hj => digs hc.2 hj)]
  exact exit0 37 a (dg a 0) (dg a 1) (dg a 2) (dg a 3) (dg a 4) (dg a 5) (dg a 6) (dg a 7) (dg a 8) (dg a 9) (dg a 10) (dg (a + 1) 0) (dg (a + 1) 1) (dg (a + 1) 2) (dg (a + 1) 3) (dg (a + 1) 4) (dg (a + 1) 5) (dg (a + 1) 6) (dg (a + 1) 7) (dg (a + 1) 8) (dg (a + 1) 9) (dg (a + 1) 10) hc.1 (is_top ha h1 (i := 0) (by decide) h hc.2)

theorem at0 (a : Int) (ha : U a) (h1 : a < 18446744073709551615) (h : q 0 (a + 1) = q 0 a + 1) : remontoirlaw01_TickCarries.l0 62 a 0 (dg a 0) (dg a 1) (dg a 2) (dg a 3) (dg a 4) (dg a 5) (dg a 6) (dg a 7) (dg a 8) (dg a 9) (dg a 10) (dg (a + 1) 0) (dg (a + 1) 1) (dg (a + 1) 2) (dg (a + 1) 3) (dg (a + 1) 4) (dg (a + 1) 5) (dg (a + 1) 6) (dg (a + 1) 7) (dg (a + 1) 8) (dg (a + 1) 9) (dg (a + 1) 10) = some true := by
  rw [show (62 : Nat) = 61 + 1 from rfl, remontoirlaw01_TickCarries.l0, if_pos (by decide), if_pos rfl]
  by_cases hd : dg a 0 = 63
  · have hc := (carry (i := 0) h).1 hd
    rw [beq_iff_eq.2 hd, show (61 : Nat) = 60 + 1 from rfl, remontoirlaw01_TickCarries.j1, if_pos rfl, if_pos rfl, if_pos hc.1, show wrap64 ((0 : Int) + 1) = 1 by decide +kernel]
    exact at1 a ha h1 hc.2
  · rw [beq_eq_false_iff_ne.2 hd]
    exact stop0 a ha h1 h hd

theorem told (a : Int) (ha : U a) : remontoirlaw01_TickCarries.f 62 a = some true := by
  have ha' := ha
  unfold U at ha'
  unfold remontoirlaw01_TickCarries.f
  by_cases h : a = 18446744073709551615
  · have wk : remontoirlaw01_wakes.f 62 = some true := wakes 50
    rw [if_pos h, wk]
    rfl
  · rw [if_neg h, show IntKind.u64.wrap (a + 1) = a + 1 by rw [IntKind.wrap_u64]; omega, show (62 : Nat) = 50 + 12 from rfl, digits ha, digits (x := a + 1) (by unfold U; omega), Option.bind_some, Option.bind_some]
    exact at0 a ha (by omega) rfl
set_option linter.unusedVariables false
theorem calls (W : World) (a0 : Int) (w0 : (Lit.int .u64 a0).wf = true) :
    Calls Try.prog 4 #[.int .u64 a0] W fun e w' => e = .returned (.bool true) ∧ Below W.heap.size W w' := by
  have h0 := Go.bounds_u64 w0
  exact remontoirlaw01_TickCarries.calls 62 a0 true W (told a0 (by unfold U; omega)) (Nat.zero_le _)
end Go.Proofs.Ytfkknipkfcmiaaa.CallTickCarries
