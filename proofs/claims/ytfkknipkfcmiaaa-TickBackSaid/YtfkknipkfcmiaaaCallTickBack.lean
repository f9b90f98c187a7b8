/- TickBack: a number's digits are digits and make it again; digits that make a number are that one's; then as a call. Conditions: none. -/
import Derived.Test.YtfkknipkfcmiaaaCore
import Derived.Test.YtfkknipkfcmiaaaPAllx5
import Derived.OpenShut
namespace Go.Proofs.Ytfkknipkfcmiaaa.CallTickBack
open Go.RowKit Go.Proofs.Ytfkknipkfcmiaaa.PAll Go.Proofs.Ytfkknipkfcmiaaa.Add Go.Proofs.YtfkknipkfcmiaaaW.PrintWords Go.Proofs.YtfkknipkfcmiaaaW.PrintLast Go.Proofs.YtfkknipkfcmiaaaW.PrintMore Go.Proofs.Ytfkknipkfcmiaaa.Core

theorem step0 (k : Nat) (x d0 d1 d2 d3 d4 d5 d6 d7 d8 d9 d10 e0 e1 e2 e3 e4 e5 e6 e7 e8 e9 e10 : Int) (h0 : 0 ≤ e0) (h1 : e0 ≤ 63) : remontoirlaw01_TickBack.l0 (k + 1) x 0 d0 d1 d2 d3 d4 d5 d6 d7 d8 d9 d10 e0 e1 e2 e3 e4 e5 e6 e7 e8 e9 e10 = remontoirlaw01_TickBack.l0 k x 1 d0 d1 d2 d3 d4 d5 d6 d7 d8 d9 d10 e0 e1 e2 e3 e4 e5 e6 e7 e8 e9 e10 := by
  rw [remontoirlaw01_TickBack.l0, if_pos (by decide), if_pos rfl, if_neg (by omega), if_neg (by omega), show wrap64 ((0 : Int) + 1) = 1 by decide +kernel]

theorem step1 (k : Nat) (x d0 d1 d2 d3 d4 d5 d6 d7 d8 d9 d10 e0 e1 e2 e3 e4 e5 e6 e7 e8 e9 e10 : Int) (h0 : 0 ≤ e1) (h1 : e1 ≤ 63) : remontoirlaw01_TickBack.l0 (k + 1) x 1 d0 d1 d2 d3 d4 d5 d6 d7 d8 d9 d10 e0 e1 e2 e3 e4 e5 e6 e7 e8 e9 e10 = remontoirlaw01_TickBack.l0 k x 2 d0 d1 d2 d3 d4 d5 d6 d7 d8 d9 d10 e0 e1 e2 e3 e4 e5 e6 e7 e8 e9 e10 := by
  rw [remontoirlaw01_TickBack.l0, if_pos (by decide), if_neg (by decide), if_pos rfl, if_neg (by omega), if_neg (by omega), show wrap64 ((1 : Int) + 1) = 2 by decide +kernel]

theorem step2 (k : Nat) (x d0 d1 d2 d3 d4 d5 d6 d7 d8 d9 d10 e0 e1 e2 e3 e4 e5 e6 e7 e8 e9 e10 : Int) (h0 : 0 ≤ e2) (h1 : e2 ≤ 63) : remontoirlaw01_TickBack.l0 (k + 1) x 2 d0 d1 d2 d3 d4 d5 d6 d7 d8 d9 d10 e0 e1 e2 e3 e4 e5 e6 e7 e8 e9 e10 = remontoirlaw01_TickBack.l0 k x 3 d0 d1 d2 d3 d4 d5 d6 d7 d8 d9 d10 e0 e1 e2 e3 e4 e5 e6 e7 e8 e9 e10 := by
  rw [remontoirlaw01_TickBack.l0, if_pos (by decide), if_neg (by decide), if_neg (by decide), if_pos rfl, if_neg (by omega), if_neg (by omega), show wrap64 ((2 : Int) + 1) = 3 by decide +kernel]

theorem step3 (k : Nat) (x d0 d1 d2 d3 d4 d5 d6 d7 d8 d9 d10 e0 e1 e2 e3 e4 e5 e6 e7 e8 e9 e10 : Int) (h0 : 0 ≤ e3) (h1 : e3 ≤ 63) : remontoirlaw01_TickBack.l0 (k + 1) x 3 d0 d1 d2 d3 d4 d5 d6 d7 d8 d9 d10 e0 e1 e2 e3 e4 e5 e6 e7 e8 e9 e10 = remontoirlaw01_TickBack.l0 k x 4 d0 d1 d2 d3 d4 d5 d6 d7 d8 d9 d10 e0 e1 e2 e3 e4 e5 e6 e7 e8 e9 e10 := by
  rw [remontoirlaw01_TickBack.l0, if_pos (by decide), if_neg (by decide), if_neg (by decide), if_neg (by decide), if_pos rfl, if_neg (by omega), if_neg (by omega), show wrap64 ((3 : Int) + 1) = 4 by decide +kernel]

theorem step4 (k : Nat) (x d0 d1 d2 d3 d4 d5 d6 d7 d8 d9 d10 e0 e1 e2 e3 e4 e5 e6 e7 e8 e9 e10 : Int) (h0 : 0 ≤ e4) (h1 : e4 ≤ 63) : remontoirlaw01_TickBack.l0 (k + 1) x 4 d0 d1 d2 d3 d4 d5 d6 d7 d8 d9 d10 e0 e1 e2 e3 e4 e5 e6 e7 e8 e9 e10 = remontoirlaw01_TickBack.l0 k x 5 d0 d1 d2 d3 d4 d5 d6 d7 d8 d9 d10 e0 e1 e2 e3 e4 e5 e6 e7 e8 e9 e10 := by
  rw [remontoirlaw01_TickBack.l0, if_pos (by decide), if_neg (by decide), if_neg (by decide), if_neg (by decide), if_neg (by decide), if_pos rfl, if_neg (by omega), if_neg (by omega), show wrap64 ((4 : Int) + 1) = 5 by decide +kernel]

theorem step5 (k : Nat) (x d0 d1 d2 d3 d4 d5 d6 d7 d8 d9 d10 e0 e1 e2 e3 e4 e5 e6 e7 e8 e9 e10 : Int) (h0 : 0 ≤ e5) (h1 : e5 ≤ 63) : remontoirlaw01_TickBack.l0 (k + 1) x 5 d0 d1 d2 d3 d4 d5 d6 d7 d8 d9 d10 e0 e1 e2 e3 e4 e5 e6 e7 e8 e9 e10 = remontoirlaw01_TickBack.l0 k x 6 d0 d1 d2 d3 d4 d5 d6 d7 d8 d9 d10 e0 e1 e2 e3 e4 e5 e6 e7 e8 e9 e10 := by
  rw [remontoirlaw01_TickBack.l0, if_pos (by decide), if_neg (by decide), if_neg (by decide), if_neg (by decide), if_neg (by decide), if_neg (by decide), if_pos rfl, if_neg (by omega), if_neg (by omega), show wrap64 ((5 : Int) + 1) = 6 by decide +kernel]

theorem step6 (k : Nat) (x d0 d1 d2 d3 d4 d5 d6 d7 d8 d9 d10 e0 e1 e2 e3 e4 e5 e6 e7 e8 e9 e10 : Int) (h0 : 0 ≤ e6) (h1 : e6 ≤ 63) : remontoirlaw01_TickBack.l0 (k + 1) x 6 d0 d1 d2 d3 d4 d5 d6 d7 d8 d9 d10 e0 e1 e2 e3 e4 e5 e6 e7 e8 e9 e10 = remontoirlaw01_TickBack.l0 k x 7 d0 d1 d2 d3 d4 d5 d6 d7 d8 d9 d10 e0 e1 e2 e3 e4 e5 e6 e7 e8 e9 e10 := by
  rw [remontoirlaw01_TickBack.l0, if_pos (by decide), if_neg (by decide), if_neg (by decide), if_neg (by decide), if_neg (by decide), if_neg (by decide), if_neg (by decide), if_pos rfl, if_neg (by omega), if_neg (by omega), show wrap64 ((6 : Int) + 1) = 7 by decide +kernel]

theorem step7 (k : Nat) (x d0 d1 d2 d3 d4 d5 d6 d7 d8 d9 d10 e0 e1 e2 e3 e4 e5 e6 e7 e8 e9 e10 : Int) (h0 : 0 ≤ e7) (h1 : e7 ≤ 63) : remontoirlaw01_TickBack.l0 (k + 1) x 7 d0 d1 d2 d3 d4 d5 d6 d7 d8 d9 d10 e0 e1 e2 e3 e4 e5 e6 e7 e8 e9 e10 = remontoirlaw01_TickBack.l0 k x 8 d0 d1 d2 d3 d4 d5 d6 d7 d8 d9 d10 e0 e1 e2 e3 e4 e5 e6 e7 e8 e9 e10 := by
  rw [remontoirlaw01_TickBack.l0, if_pos (by decide), if_neg (by decide), if_neg (by decide), if_neg (by decide), if_neg (by decide), if_neg (by decide), if_neg (by decide), if_neg (by decide), if_pos rfl, if_neg (by omega), if_neg (by omega), show wrap64 ((7 : Int) + 1) = 8 by decide +kernel]

theorem step8 (k : Nat) (x d0 d1 d2 d3 d4 d5 d6 d7 d8 d9 d10 e0 e1 e2 e3 e4 e5 e6 e7 e8 e9 e10 : Int) (h0 : 0 ≤ e8) (h1 : e8 ≤ 63) : remontoirlaw01_TickBack.l0 (k + 1) x 8 d0 d1 d2 d3 d4 d5 d6 d7 d8 d9 d10 e0 e1 e2 e3 e4 e5 e6 e7 e8 e9 e10 = remontoirlaw01_TickBack.l0 k x 9 d0 d1 d2 d3 d4 d5 d6 d7 d8 d9 d10 e0 e1 e2 e3 e4 e5 e6 e7 e8 e9 e10 := by
  rw [remontoirlaw01_TickBack.l0, if_pos (by decide), if_neg (by decide), if_neg (by decide), if_neg (by decide), if_neg (by decide), if_neg (by decide), if_neg (by decide), if_neg (by decide), if_neg (by decide), if_pos rfl, if_neg (by omega), if_neg (by omega), show wrap64 ((8 : Int) + 1) = 9 by decide +kernel]

theorem step9 (k : Nat) (x d0 d1 d2 d3 d4 d5 d6 d7 d8 d9 d10 e0 e1 e2 e3 e4 e5 e6 e7 e8 e9 e10 : Int) (h0 : 0 ≤ e9) (h1 : e9 ≤ 63) : remontoirlaw01_TickBack.l0 (k + 1) x 9 d0 d1 d2 d3 d4 d5 d6 d7 d8 d9 d10 e0 e1 e2 e3 e4 e5 e6 e7 e8 e9 e10 = remontoirlaw01_TickBack.l0 k x 10 d0 d1 d2 d3 d4 d5 d6 d7 d8 d9 d10 e0 e1 e2 e3 e4 e5 e6 e7 e8 e9 e10 := by
  rw [remontoirlaw01_TickBack.l0, if_pos (by decide), if_neg (by decide), if_neg (by decide), if_neg (by decide), if_neg (by decide), if_neg (by decide), if_neg (by decide), if_neg (by decide), if_neg (by decide), if_neg (by decide), if_pos rfl, if_neg (by omega), if_neg (by omega), show wrap64 ((9 : Int) + 1) = 10 by decide +kernel]

theorem step10 (k : Nat) (x d0 d1 d2 d3 d4 d5 d6 d7 d8 d9 d10 e0 e1 e2 e3 e4 e5 e6 e7 e8 e9 e10 : Int) (h0 : 0 ≤ e10) (h1 : e10 ≤ 15) : remontoirlaw01_TickBack.l0 (k + 1) x 10 d0 d1 d2 d3 d4 d5 d6 d7 d8 d9 d10 e0 e1 e2 e3 e4 e5 e6 e7 e8 e9 e10 = remontoirlaw01_TickBack.l0 k x 11 d0 d1 d2 d3 d4 d5 d6 d7 d8 d9 d10 e0 e1 e2 e3 e4 e5 e6 e7 e8 e9 e10 := by
  rw [remontoirlaw01_TickBack.l0, if_pos (by decide), if_neg (by decide), if_neg (by decide), if_neg (by decide), if_neg (by decide), if_neg (by decide), if_neg (by decide), if_neg (by decide), if_neg (by decide), if_neg (by decide), if_neg (by decide), if_pos rfl, if_neg (by omega), if_neg (by omega), if_neg (by omega), show wrap64 ((10 : Int) + 1) = 11 by decide +kernel]

theorem last (k : Nat) (x d0 d1 d2 d3 d4 d5 d6 d7 d8 d9 d10 e0 e1 e2 e3 e4 e5 e6 e7 e8 e9 e10 : Int) (he : Core.Good e0 e1 e2 e3 e4 e5 e6 e7 e8 e9 e10) (hn : num e0 e1 e2 e3 e4 e5 e6 e7 e8 e9 e10 = x) : remontoirlaw01_TickBack.l0 (k + 13) x 11 d0 d1 d2 d3 d4 d5 d6 d7 d8 d9 d10 e0 e1 e2 e3 e4 e5 e6 e7 e8 e9 e10 = some true := by
  have wk : remontoirlaw01_wakes.f (k + 12) = some true := wakes k
  rw [show k + 13 = (k + 12) + 1 from rfl, remontoirlaw01_TickBack.l0, if_neg (by decide), ofDigits k e0 e1 e2 e3 e4 e5 e6 e7 e8 e9 e10, if_pos he, hn, ofDigits k d0 d1 d2 d3 d4 d5 d6 d7 d8 d9 d10, Option.bind_some, Option.bind_some, wk, if_pos rfl, if_pos rfl]
  by_cases hd : Core.Good d0 d1 d2 d3 d4 d5 d6 d7 d8 d9 d10
  · rw [if_pos hd, if_pos rfl, digits (U_num hd) k, dgs_num hd, Option.bind_some, if_pos rfl, if_pos rfl, if_pos rfl, if_pos rfl, if_pos rfl, if_pos rfl, if_pos rfl, if_pos rfl, if_pos rfl, if_pos rfl, if_pos rfl]
    rfl
  · rw [if_neg hd, if_neg (by decide), if_pos rfl]
    rfl

theorem told (x d0 d1 d2 d3 d4 d5 d6 d7 d8 d9 d10 : Int) (hx : U x) : remontoirlaw01_TickBack.f 40 x d0 d1 d2 d3 d4 d5 d6 d7 d8 d9 d10 = some true := by
  have he := good_dgs hx
  have hn := num_dgs hx
  unfold remontoirlaw01_TickBack.f
  rw [show (40 : Nat) = 28 + 12 from rfl, digits hx, Option.bind_some]
  show remontoirlaw01_TickBack.l0 40 x 0 d0 d1 d2 d3 d4 d5 d6 d7 d8 d9 d10 (dg x 0) (dg x 1) (dg x 2) (dg x 3) (dg x 4) (dg x 5) (dg x 6) (dg x 7) (dg x 8) (dg x 9) (dg x 10) = some true
  have hg := he
  unfold Core.Good at hg
  rw [show (40 : Nat) = 39 + 1 from rfl, step0 _ _ _ _ _ _ _ _ _ _ _ _ _ _ _ _ _ _ _ _ _ _ _ _ (by omega) (by omega)]
  rw [show (39 : Nat) = 38 + 1 from rfl, step1 _ _ _ _ _ _ _ _ _ _ _ _ _ _ _ _ _ _ _ _ _ _ _ _ (by omega) (by omega)]
  rw [show (38 : Nat) = 37 + 1 from rfl, step2 _ _ _ _ _ _ _ _ _ _ _ _ _ _ _ _ _ _ _ _ _ _ _ _ (by omega) (by omega)]
  rw [show (37 : Nat) = 36 + 1 from rfl, step3 _ _ _ _ _ _ _ _ _ _ _ _ _ _ _ _ _ _ _ _ _ _ _ _ (by omega) (by omega)]
  rw [show (36 : Nat) = 35 + 1 from rfl, step4 _ _ _ _ _ _ _ _ _ _ _ _ _ _ _ _ _ _ _ _ _ _ _ _ (by omega) (by omega)]
  rw [show (35 : Nat) = 34 + 1 from rfl, step5 _ _ _ _ _ _ _ _ _ _ _ _ _ _ _ _ _ _ _ _ _ _ _ _ (by omega) (by omega)]
  rw [show (34 : Nat) = 33 + 1 from rfl, step6 _ _ _ _ _ _ _ _ _ _ _ _ _ _ _ _ _ _ _ _ _ _ _ _ (by omega) (by omega)]
  rw [show (33 : Nat) = 32 + 1 from rfl, step7 _ _ _ _ _ _ _ _ _ _ _ _ _ _ _ _ _ _ _ _ _ _ _ _ (by omega) (by omega)]
  rw [show (32 : Nat) = 31 + 1 from rfl, step8 _ _ _ _ _ _ _ _ _ _ _ _ _ _ _ _ _ _ _ _ _ _ _ _ (by omega) (by omega)]
  rw [show (31 : Nat) = 30 + 1 from rfl, step9 _ _ _ _ _ _ _ _ _ _ _ _ _ _ _ _ _ _ _ _ _ _ _ _ (by omega) (by omega)]
  rw [show (30 : Nat) = 29 + 1 from rfl, step10 _ _ _ _ _ _ _ _ _ _ _ _ _ _ _ _ _ _ _ _ _ _ _ _ (by omega) (by omega)]
  exact last 16 x d0 d1 d2 d3 d4 d5 d6 d7 d8 d9 d10 (dg x 0) (dg x 1) (dg x 2) (dg x 3) (dg x 4) (dg x 5) (dg x 6) (dg x 7) (dg x 8) (dg x 9) (dg x 10) he hn
set_option linter.unusedVariables false

theorem calls (W : World) (a0 : Int) (w0 : (Lit.int .u64 a0).wf = true) (a1_0 : Int) (w1_0 : (Lit.int .i64 a1_0).wf = true) (a1_1 : Int) (w1_1 : (Lit.int .i64 a1_1).wf = true) (a1_2 : Int) (w1_2 : (Lit.int .i64 a1_2).wf = true) (a1_3 : Int) (w1_3 : (Lit.int .i64 a1_3).wf = true) (a1_4 : Int) (w1_4 : (Lit.int .i64 a1_4).wf = true) (a1_5 : Int) (w1_5 : (Lit.int .i64 a1_5).wf = true) (a1_6 : Int) (w1_6 : (Lit.int .i64 a1_6).wf = true) (a1_7 : Int) (w1_7 : (Lit.int .i64 a1_7).wf = true) (a1_8 : Int) (w1_8 : (Lit.int .i64 a1_8).wf = true) (a1_9 : Int) (w1_9 : (Lit.int .i64 a1_9).wf = true) (a1_10 : Int) (w1_10 : (Lit.int .i64 a1_10).wf = true) :
    Calls Try.prog 6 #[.int .u64 a0, .agg #[.int .i64 a1_0, .int .i64 a1_1, .int .i64 a1_2, .int .i64 a1_3, .int .i64 a1_4, .int .i64 a1_5, .int .i64 a1_6, .int .i64 a1_7, .int .i64 a1_8, .int .i64 a1_9, .int .i64 a1_10]] W fun e w' => e = .returned (.bool true) ∧ Below W.heap.size W w' := by
  have h0 := Go.bounds_u64 w0
  exact remontoirlaw01_TickBack.calls 40 a0 a1_0 a1_1 a1_2 a1_3 a1_4 a1_5 a1_6 a1_7 a1_8 a1_9 a1_10 true W (told a0 a1_0 a1_1 a1_2 a1_3 a1_4 a1_5 a1_6 a1_7 a1_8 a1_9 a1_10 (by unfold U; omega)) (Nat.zero_le _)
end Go.Proofs.Ytfkknipkfcmiaaa.CallTickBack

