-- Printed by a program of ours (wip/common/mkprint.py), turned from the kit's print; Lean checks it.
import Derived.Test.YtfkknipkfcmiaaaPAllx0
import Derived.Test.YtfkknipkfcmiaaaPAllx1
import Derived.Test.YtfkknipkfcmiaaaPAllx2
import Derived.Test.YtfkknipkfcmiaaaPAllx4
import Derived.Test.YtfkknipkfcmiaaaPAllx6
import Derived.Test.YtfkknipkfcmiaaaPAllx7
import Derived.Test.YtfkknipkfcmiaaaPAllx8
import Derived.Test.YtfkknipkfcmiaaaPAllx9
namespace Go.Proofs.Ytfkknipkfcmiaaa.PAll
open Go.Proofs.Ytfkknipkfcmiaaa.Add
open Go.RowKit Go.Proofs.YtfkknipkfcmiaaaW.PrintWords Go.Proofs.YtfkknipkfcmiaaaW.PrintLast Go.Proofs.YtfkknipkfcmiaaaW.PrintMore
attribute [local go_sem] max2_int min2_int max_two min_two max_three min_three max_four min_four   -- for this text's walks alone
set_option linter.unusedVariables false
set_option linter.unusedSimpArgs false

attribute [local go_sem high] eqA36
/-! ### remontoirlaw01_TickTells: function 7 -/
def remontoirlaw01_TickTells.f (k : Nat) (a0 : Int) (a1 : Int) (a2_0 : Int) (a2_1 : Int) (a2_2 : Int) (a2_3 : Int) (a2_4 : Int) (a2_5 : Int) (a2_6 : Int) (a2_7 : Int) (a2_8 : Int) (a2_9 : Int) (a2_10 : Int) : Option (Bool) := (tick_Sum.f a0 a1).bind fun bt303 => ((tick_Times.f a0 a1).bind fun bt305 => ((tick_Of.f k a2_0 a2_1 a2_2 a2_3 a2_4 a2_5 a2_6 a2_7 a2_8 a2_9 a2_10).bind fun bt307 => ((remontoirref01_Sum.f a0 a1).bind fun bt309 => (if (bt303.1 == bt309.1 && (bt303.2 == bt309.2)) = true then ((remontoirref01_Times.f a0 a1).bind fun bt311 => (if (bt305.1 == bt311.1 && (bt305.2 == bt311.2)) = true then ((remontoirref01_Of.f k a2_0 a2_1 a2_2 a2_3 a2_4 a2_5 a2_6 a2_7 a2_8 a2_9 a2_10).bind fun bt313 => (if (bt307.1 == bt313.1 && (bt307.2 == bt313.2)) = true then ((tick_Held.f a0 a1).bind fun t315 => ((remontoirref01_Held.f a0 a1).bind fun t316 => (if t315 = t316 then ((tick_Digits.f k a0).bind fun bt317 => ((remontoirref01_Digits.f k a0).bind fun bt328 => (if bt317.1 = bt328.1 then (if bt317.2.1 = bt328.2.1 then (if bt317.2.2.1 = bt328.2.2.1 then (if bt317.2.2.2.1 = bt328.2.2.2.1 then (if bt317.2.2.2.2.1 = bt328.2.2.2.2.1 then (if bt317.2.2.2.2.2.1 = bt328.2.2.2.2.2.1 then (if bt317.2.2.2.2.2.2.1 = bt328.2.2.2.2.2.2.1 then (if bt317.2.2.2.2.2.2.2.1 = bt328.2.2.2.2.2.2.2.1 then (if bt317.2.2.2.2.2.2.2.2.1 = bt328.2.2.2.2.2.2.2.2.1 then (if bt317.2.2.2.2.2.2.2.2.2.1 = bt328.2.2.2.2.2.2.2.2.2.1 then (if bt317.2.2.2.2.2.2.2.2.2.2 = bt328.2.2.2.2.2.2.2.2.2.2 then ((tick_Top.f a0 a1).bind fun t339 => ((remontoirref01_Top.f k a0 a1).bind fun t340 => (if t339 = t340 then ((remontoirlaw01_wakes.f k).bind fun t341 => (some t341)) else (none)))) else (none)) else (none)) else (none)) else (none)) else (none)) else (none)) else (none)) else (none)) else (none)) else (none)) else (none)))) else (none)))) else (none))) else (none))) else (none)))))
theorem remontoirlaw01_TickTells.mono : ∀ a0 a1 a2 a3 a4 a5 a6 a7 a8 a9 a10 a11 a12 k, LeO (remontoirlaw01_TickTells.f k a0 a1 a2 a3 a4 a5 a6 a7 a8 a9 a10 a11 a12) (remontoirlaw01_TickTells.f (k + 1) a0 a1 a2 a3 a4 a5 a6 a7 a8 a9 a10 a11 a12) := by
  intro a0 a1 a2 a3 a4 a5 a6 a7 a8 a9 a10 a11 a12 k
  unfold remontoirlaw01_TickTells.f
  repeat' first
      | (with_reducible exact remontoirlaw01_wakes.mono _)
      | (with_reducible exact remontoirref01_Digits.mono _ _)
      | (with_reducible exact remontoirref01_Of.mono _ _ _ _ _ _ _ _ _ _ _ _)
      | (with_reducible exact remontoirref01_Top.mono _ _ _)
      | (with_reducible exact tick_Digits.mono _ _)
      | (with_reducible exact tick_Of.mono _ _ _ _ _ _ _ _ _ _ _ _)
      | (with_reducible exact LeO.refl _)
      | (with_reducible exact LeO.none _)
      | (with_reducible refine LeO.ite ?_ ?_)
      | (with_reducible refine LeO.bind ?_ (fun _ => ?_))
      | exact remontoirlaw01_wakes.mono _
      | exact remontoirref01_Digits.mono _ _
      | exact remontoirref01_Of.mono _ _ _ _ _ _ _ _ _ _ _ _
      | exact remontoirref01_Top.mono _ _ _
      | exact tick_Digits.mono _ _
      | exact tick_Of.mono _ _ _ _ _ _ _ _ _ _ _ _
      | exact LeO.none _
      | refine LeO.ite ?_ ?_
      | refine LeO.bind ?_ (fun _ => ?_)
set_option maxHeartbeats 8000000 in
set_option maxRecDepth 100000 in
theorem remontoirlaw01_TickTells.calls (k : Nat) (a0 : Int) (a1 : Int) (a2_0 : Int) (a2_1 : Int) (a2_2 : Int) (a2_3 : Int) (a2_4 : Int) (a2_5 : Int) (a2_6 : Int) (a2_7 : Int) (a2_8 : Int) (a2_9 : Int) (a2_10 : Int) (r : Bool) (w : World) (h : remontoirlaw01_TickTells.f k a0 a1 a2_0 a2_1 a2_2 a2_3 a2_4 a2_5 a2_6 a2_7 a2_8 a2_9 a2_10 = some r) (hT0 : TabOk w) :
    Calls Try.prog 7 #[.int .u64 a0, .int .u64 a1, .agg #[.int .i64 a2_0, .int .i64 a2_1, .int .i64 a2_2, .int .i64 a2_3, .int .i64 a2_4, .int .i64 a2_5, .int .i64 a2_6, .int .i64 a2_7, .int .i64 a2_8, .int .i64 a2_9, .int .i64 a2_10]] w fun e w' => e = .returned (.bool r) ∧ Below w.heap.size w w' := by
  have HT0 := Aside0.mk hT0
  clear hT0
  have hu24 := Try.underlying24
  have hu36 := Try.underlying36
  have HB := Aside0.mk (Below.refl w.heap.size w)
  have H : ((tick_Sum.f a0 a1).bind fun bt303 => ((tick_Times.f a0 a1).bind fun bt305 => ((tick_Of.f k a2_0 a2_1 a2_2 a2_3 a2_4 a2_5 a2_6 a2_7 a2_8 a2_9 a2_10).bind fun bt307 => ((remontoirref01_Sum.f a0 a1).bind fun bt309 => (if (bt303.1 == bt309.1 && (bt303.2 == bt309.2)) = true then ((remontoirref01_Times.f a0 a1).bind fun bt311 => (if (bt305.1 == bt311.1 && (bt305.2 == bt311.2)) = true then ((remontoirref01_Of.f k a2_0 a2_1 a2_2 a2_3 a2_4 a2_5 a2_6 a2_7 a2_8 a2_9 a2_10).bind fun bt313 => (if (bt307.1 == bt313.1 && (bt307.2 == bt313.2)) = true then ((tick_Held.f a0 a1).bind fun t315 => ((remontoirref01_Held.f a0 a1).bind fun t316 => (if t315 = t316 then ((tick_Digits.f k a0).bind fun bt317 => ((remontoirref01_Digits.f k a0).bind fun bt328 => (if bt317.1 = bt328.1 then (if bt317.2.1 = bt328.2.1 then (if bt317.2.2.1 = bt328.2.2.1 then (if bt317.2.2.2.1 = bt328.2.2.2.1 then (if bt317.2.2.2.2.1 = bt328.2.2.2.2.1 then (if bt317.2.2.2.2.2.1 = bt328.2.2.2.2.2.1 then (if bt317.2.2.2.2.2.2.1 = bt328.2.2.2.2.2.2.1 then (if bt317.2.2.2.2.2.2.2.1 = bt328.2.2.2.2.2.2.2.1 then (if bt317.2.2.2.2.2.2.2.2.1 = bt328.2.2.2.2.2.2.2.2.1 then (if bt317.2.2.2.2.2.2.2.2.2.1 = bt328.2.2.2.2.2.2.2.2.2.1 then (if bt317.2.2.2.2.2.2.2.2.2.2 = bt328.2.2.2.2.2.2.2.2.2.2 then ((tick_Top.f a0 a1).bind fun t339 => ((remontoirref01_Top.f k a0 a1).bind fun t340 => (if t339 = t340 then ((remontoirlaw01_wakes.f k).bind fun t341 => (some t341)) else (none)))) else (none)) else (none)) else (none)) else (none)) else (none)) else (none)) else (none)) else (none)) else (none)) else (none)) else (none)))) else (none)))) else (none))) else (none))) else (none)))))) = some r := h
  clear h
  replace H := Option.bind_eq_some_iff.mp H
  obtain ⟨⟨t303, t304⟩, A40, H⟩ := H
  replace H : ((tick_Times.f a0 a1).bind fun bt305 => ((tick_Of.f k a2_0 a2_1 a2_2 a2_3 a2_4 a2_5 a2_6 a2_7 a2_8 a2_9 a2_10).bind fun bt307 => ((remontoirref01_Sum.f a0 a1).bind fun bt309 => (if (t303 == bt309.1 && (t304 == bt309.2)) = true then ((remontoirref01_Times.f a0 a1).bind fun bt311 => (if (bt305.1 == bt311.1 && (bt305.2 == bt311.2)) = true then ((remontoirref01_Of.f k a2_0 a2_1 a2_2 a2_3 a2_4 a2_5 a2_6 a2_7 a2_8 a2_9 a2_10).bind fun bt313 => (if (bt307.1 == bt313.1 && (bt307.2 == bt313.2)) = true then ((tick_Held.f a0 a1).bind fun t315 => ((remontoirref01_Held.f a0 a1).bind fun t316 => (if t315 = t316 then ((tick_Digits.f k a0).bind fun bt317 => ((remontoirref01_Digits.f k a0).bind fun bt328 => (if bt317.1 = bt328.1 then (if bt317.2.1 = bt328.2.1 then (if bt317.2.2.1 = bt328.2.2.1 then (if bt317.2.2.2.1 = bt328.2.2.2.1 then (if bt317.2.2.2.2.1 = bt328.2.2.2.2.1 then (if bt317.2.2.2.2.2.1 = bt328.2.2.2.2.2.1 then (if bt317.2.2.2.2.2.2.1 = bt328.2.2.2.2.2.2.1 then (if bt317.2.2.2.2.2.2.2.1 = bt328.2.2.2.2.2.2.2.1 then (if bt317.2.2.2.2.2.2.2.2.1 = bt328.2.2.2.2.2.2.2.2.1 then (if bt317.2.2.2.2.2.2.2.2.2.1 = bt328.2.2.2.2.2.2.2.2.2.1 then (if bt317.2.2.2.2.2.2.2.2.2.2 = bt328.2.2.2.2.2.2.2.2.2.2 then ((tick_Top.f a0 a1).bind fun t339 => ((remontoirref01_Top.f k a0 a1).bind fun t340 => (if t339 = t340 then ((remontoirlaw01_wakes.f k).bind fun t341 => (some t341)) else (none)))) else (none)) else (none)) else (none)) else (none)) else (none)) else (none)) else (none)) else (none)) else (none)) else (none)) else (none)))) else (none)))) else (none))) else (none))) else (none))))) = some r := H
  have A4 := Aside0.mk A40
  clear A40
  replace H := Option.bind_eq_some_iff.mp H
  obtain ⟨⟨t305, t306⟩, A50, H⟩ := H
  replace H : ((tick_Of.f k a2_0 a2_1 a2_2 a2_3 a2_4 a2_5 a2_6 a2_7 a2_8 a2_9 a2_10).bind fun bt307 => ((remontoirref01_Sum.f a0 a1).bind fun bt309 => (if (t303 == bt309.1 && (t304 == bt309.2)) = true then ((remontoirref01_Times.f a0 a1).bind fun bt311 => (if (t305 == bt311.1 && (t306 == bt311.2)) = true then ((remontoirref01_Of.f k a2_0 a2_1 a2_2 a2_3 a2_4 a2_5 a2_6 a2_7 a2_8 a2_9 a2_10).bind fun bt313 => (if (bt307.1 == bt313.1 && (bt307.2 == bt313.2)) = true then ((tick_Held.f a0 a1).bind fun t315 => ((remontoirref01_Held.f a0 a1).bind fun t316 => (if t315 = t316 then ((tick_Digits.f k a0).bind fun bt317 => ((remontoirref01_Digits.f k a0).bind fun bt328 => (if bt317.1 = bt328.1 then (if bt317.2.1 = bt328.2.1 then (if bt317.2.2.1 = bt328.2.2.1 then (if bt317.2.2.2.1 = bt328.2.2.2.1 then (if bt317.2.2.2.2.1 = bt328.2.2.2.2.1 then (if bt317.2.2.2.2.2.1 = bt328.2.2.2.2.2.1 then (if bt317.2.2.2.2.2.2.1 = bt328.2.2.2.2.2.2.1 then (if bt317.2.2.2.2.2.2.2.1 = bt328.2.2.2.2.2.2.2.1 then (if bt317.2.2.2.2.2.2.2.2.1 = bt328.2.2.2.2.2.2.2.2.1 then (if bt317.2.2.2.2.2.2.2.2.2.1 = bt328.2.2.2.2.2.2.2.2.2.1 then (if bt317.2.2.2.2.2.2.2.2.2.2 = bt328.2.2.2.2.2.2.2.2.2.2 then ((tick_Top.f a0 a1).bind fun t339 => ((remontoirref01_Top.f k a0 a1).bind fun t340 => (if t339 = t340 then ((remontoirlaw01_wakes.f k).bind fun t341 => (some t341)) else (none)))) else (none)) else (none)) else (none)) else (none)) else (none)) else (none)) else (none)) else (none)) else (none)) else (none)) else (none)))) else (none)))) else (none))) else (none))) else (none)))) = some r := H
  have A5 := Aside0.mk A50
  clear A50
  replace H := Option.bind_eq_some_iff.mp H
  obtain ⟨⟨t307, t308⟩, A60, H⟩ := H
  replace H : ((remontoirref01_Sum.f a0 a1).bind fun bt309 => (if (t303 == bt309.1 && (t304 == bt309.2)) = true then ((remontoirref01_Times.f a0 a1).bind fun bt311 => (if (t305 == bt311.1 && (t306 == bt311.2)) = true then ((remontoirref01_Of.f k a2_0 a2_1 a2_2 a2_3 a2_4 a2_5 a2_6 a2_7 a2_8 a2_9 a2_10).bind fun bt313 => (if (t307 == bt313.1 && (t308 == bt313.2)) = true then ((tick_Held.f a0 a1).bind fun t315 => ((remontoirref01_Held.f a0 a1).bind fun t316 => (if t315 = t316 then ((tick_Digits.f k a0).bind fun bt317 => ((remontoirref01_Digits.f k a0).bind fun bt328 => (if bt317.1 = bt328.1 then (if bt317.2.1 = bt328.2.1 then (if bt317.2.2.1 = bt328.2.2.1 then (if bt317.2.2.2.1 = bt328.2.2.2.1 then (if bt317.2.2.2.2.1 = bt328.2.2.2.2.1 then (if bt317.2.2.2.2.2.1 = bt328.2.2.2.2.2.1 then (if bt317.2.2.2.2.2.2.1 = bt328.2.2.2.2.2.2.1 then (if bt317.2.2.2.2.2.2.2.1 = bt328.2.2.2.2.2.2.2.1 then (if bt317.2.2.2.2.2.2.2.2.1 = bt328.2.2.2.2.2.2.2.2.1 then (if bt317.2.2.2.2.2.2.2.2.2.1 = bt328.2.2.2.2.2.2.2.2.2.1 then (if bt317.2.2.2.2.2.2.2.2.2.2 = bt328.2.2.2.2.2.2.2.2.2.2 then ((tick_Top.f a0 a1).bind fun t339 => ((remontoirref01_Top.f k a0 a1).bind fun t340 => (if t339 = t340 then ((remontoirlaw01_wakes.f k).bind fun t341 => (some t341)) else (none)))) else (none)) else (none)) else (none)) else (none)) else (none)) else (none)) else (none)) else (none)) else (none)) else (none)) else (none)))) else (none)))) else (none))) else (none))) else (none))) = some r := H
  have A6 := Aside0.mk A60
  clear A60
  replace H := Option.bind_eq_some_iff.mp H
  obtain ⟨⟨t309, t310⟩, A70, H⟩ := H
  replace H : (if (t303 == t309 && (t304 == t310)) = true then ((remontoirref01_Times.f a0 a1).bind fun bt311 => (if (t305 == bt311.1 && (t306 == bt311.2)) = true then ((remontoirref01_Of.f k a2_0 a2_1 a2_2 a2_3 a2_4 a2_5 a2_6 a2_7 a2_8 a2_9 a2_10).bind fun bt313 => (if (t307 == bt313.1 && (t308 == bt313.2)) = true then ((tick_Held.f a0 a1).bind fun t315 => ((remontoirref01_Held.f a0 a1).bind fun t316 => (if t315 = t316 then ((tick_Digits.f k a0).bind fun bt317 => ((remontoirref01_Digits.f k a0).bind fun bt328 => (if bt317.1 = bt328.1 then (if bt317.2.1 = bt328.2.1 then (if bt317.2.2.1 = bt328.2.2.1 then (if bt317.2.2.2.1 = bt328.2.2.2.1 then (if bt317.2.2.2.2.1 = bt328.2.2.2.2.1 then (if bt317.2.2.2.2.2.1 = bt328.2.2.2.2.2.1 then (if bt317.2.2.2.2.2.2.1 = bt328.2.2.2.2.2.2.1 then (if bt317.2.2.2.2.2.2.2.1 = bt328.2.2.2.2.2.2.2.1 then (if bt317.2.2.2.2.2.2.2.2.1 = bt328.2.2.2.2.2.2.2.2.1 then (if bt317.2.2.2.2.2.2.2.2.2.1 = bt328.2.2.2.2.2.2.2.2.2.1 then (if bt317.2.2.2.2.2.2.2.2.2.2 = bt328.2.2.2.2.2.2.2.2.2.2 then ((tick_Top.f a0 a1).bind fun t339 => ((remontoirref01_Top.f k a0 a1).bind fun t340 => (if t339 = t340 then ((remontoirlaw01_wakes.f k).bind fun t341 => (some t341)) else (none)))) else (none)) else (none)) else (none)) else (none)) else (none)) else (none)) else (none)) else (none)) else (none)) else (none)) else (none)))) else (none)))) else (none))) else (none))) else (none)) = some r := H
  have A7 := Aside0.mk A70
  clear A70
  by_cases c8 : (t303 == t309 && (t304 == t310)) = true
  · rw [if_pos c8] at H
    have c8b0 : (t303 == t309 && (t304 == t310)) = true := c8
    (try (have c8b1 : decide (t303 = t309 && (t304 == t310)) = true := by simpa using c8))
    (try (have c8b2 : (t303 == t309 && (t304 == t310)) = true := by simpa using c8))
    clear c8
    replace H := Option.bind_eq_some_iff.mp H
    obtain ⟨⟨t311, t312⟩, A90, H⟩ := H
    replace H : (if (t305 == t311 && (t306 == t312)) = true then ((remontoirref01_Of.f k a2_0 a2_1 a2_2 a2_3 a2_4 a2_5 a2_6 a2_7 a2_8 a2_9 a2_10).bind fun bt313 => (if (t307 == bt313.1 && (t308 == bt313.2)) = true then ((tick_Held.f a0 a1).bind fun t315 => ((remontoirref01_Held.f a0 a1).bind fun t316 => (if t315 = t316 then ((tick_Digits.f k a0).bind fun bt317 => ((remontoirref01_Digits.f k a0).bind fun bt328 => (if bt317.1 = bt328.1 then (if bt317.2.1 = bt328.2.1 then (if bt317.2.2.1 = bt328.2.2.1 then (if bt317.2.2.2.1 = bt328.2.2.2.1 then (if bt317.2.2.2.2.1 = bt328.2.2.2.2.1 then (if bt317.2.2.2.2.2.1 = bt328.2.2.2.2.2.1 then (if bt317.2.2.2.2.2.2.1 = bt328.2.2.2.2.2.2.1 then (if bt317.2.2.2.2.2.2.2.1 = bt328.2.2.2.2.2.2.2.1 then (if bt317.2.2.2.2.2.2.2.2.1 = bt328.2.2.2.2.2.2.2.2.1 then (if bt317.2.2.2.2.2.2.2.2.2.1 = bt328.2.2.2.2.2.2.2.2.2.1 then (if bt317.2.2.2.2.2.2.2.2.2.2 = bt328.2.2.2.2.2.2.2.2.2.2 then ((tick_Top.f a0 a1).bind fun t339 => ((remontoirref01_Top.f k a0 a1).bind fun t340 => (if t339 = t340 then ((remontoirlaw01_wakes.f k).bind fun t341 => (some t341)) else (none)))) else (none)) else (none)) else (none)) else (none)) else (none)) else (none)) else (none)) else (none)) else (none)) else (none)) else (none)))) else (none)))) else (none))) else (none)) = some r := H
    have A9 := Aside0.mk A90
    clear A90
    by_cases c10 : (t305 == t311 && (t306 == t312)) = true
    · rw [if_pos c10] at H
      have c10b0 : (t305 == t311 && (t306 == t312)) = true := c10
      (try (have c10b1 : decide (t305 = t311 && (t306 == t312)) = true := by simpa using c10))
      (try (have c10b2 : (t305 == t311 && (t306 == t312)) = true := by simpa using c10))
      clear c10
      replace H := Option.bind_eq_some_iff.mp H
      obtain ⟨⟨t313, t314⟩, A110, H⟩ := H
      replace H : (if (t307 == t313 && (t308 == t314)) = true then ((tick_Held.f a0 a1).bind fun t315 => ((remontoirref01_Held.f a0 a1).bind fun t316 => (if t315 = t316 then ((tick_Digits.f k a0).bind fun bt317 => ((remontoirref01_Digits.f k a0).bind fun bt328 => (if bt317.1 = bt328.1 then (if bt317.2.1 = bt328.2.1 then (if bt317.2.2.1 = bt328.2.2.1 then (if bt317.2.2.2.1 = bt328.2.2.2.1 then (if bt317.2.2.2.2.1 = bt328.2.2.2.2.1 then (if bt317.2.2.2.2.2.1 = bt328.2.2.2.2.2.1 then (if bt317.2.2.2.2.2.2.1 = bt328.2.2.2.2.2.2.1 then (if bt317.2.2.2.2.2.2.2.1 = bt328.2.2.2.2.2.2.2.1 then (if bt317.2.2.2.2.2.2.2.2.1 = bt328.2.2.2.2.2.2.2.2.1 then (if bt317.2.2.2.2.2.2.2.2.2.1 = bt328.2.2.2.2.2.2.2.2.2.1 then (if bt317.2.2.2.2.2.2.2.2.2.2 = bt328.2.2.2.2.2.2.2.2.2.2 then ((tick_Top.f a0 a1).bind fun t339 => ((remontoirref01_Top.f k a0 a1).bind fun t340 => (if t339 = t340 then ((remontoirlaw01_wakes.f k).bind fun t341 => (some t341)) else (none)))) else (none)) else (none)) else (none)) else (none)) else (none)) else (none)) else (none)) else (none)) else (none)) else (none)) else (none)))) else (none)))) else (none)) = some r := H
      have A11 := Aside0.mk A110
      clear A110
      by_cases c12 : (t307 == t313 && (t308 == t314)) = true
      · rw [if_pos c12] at H
        have c12b0 : (t307 == t313 && (t308 == t314)) = true := c12
        (try (have c12b1 : decide (t307 = t313 && (t308 == t314)) = true := by simpa using c12))
        (try (have c12b2 : (t307 == t313 && (t308 == t314)) = true := by simpa using c12))
        clear c12
        replace H := Option.bind_eq_some_iff.mp H
        obtain ⟨t315, A130, H⟩ := H
        replace H : ((remontoirref01_Held.f a0 a1).bind fun t316 => (if t315 = t316 then ((tick_Digits.f k a0).bind fun bt317 => ((remontoirref01_Digits.f k a0).bind fun bt328 => (if bt317.1 = bt328.1 then (if bt317.2.1 = bt328.2.1 then (if bt317.2.2.1 = bt328.2.2.1 then (if bt317.2.2.2.1 = bt328.2.2.2.1 then (if bt317.2.2.2.2.1 = bt328.2.2.2.2.1 then (if bt317.2.2.2.2.2.1 = bt328.2.2.2.2.2.1 then (if bt317.2.2.2.2.2.2.1 = bt328.2.2.2.2.2.2.1 then (if bt317.2.2.2.2.2.2.2.1 = bt328.2.2.2.2.2.2.2.1 then (if bt317.2.2.2.2.2.2.2.2.1 = bt328.2.2.2.2.2.2.2.2.1 then (if bt317.2.2.2.2.2.2.2.2.2.1 = bt328.2.2.2.2.2.2.2.2.2.1 then (if bt317.2.2.2.2.2.2.2.2.2.2 = bt328.2.2.2.2.2.2.2.2.2.2 then ((tick_Top.f a0 a1).bind fun t339 => ((remontoirref01_Top.f k a0 a1).bind fun t340 => (if t339 = t340 then ((remontoirlaw01_wakes.f k).bind fun t341 => (some t341)) else (none)))) else (none)) else (none)) else (none)) else (none)) else (none)) else (none)) else (none)) else (none)) else (none)) else (none)) else (none)))) else (none))) = some r := H
        have A13 := Aside0.mk A130
        clear A130
        replace H := Option.bind_eq_some_iff.mp H
        obtain ⟨t316, A140, H⟩ := H
        replace H : (if t315 = t316 then ((tick_Digits.f k a0).bind fun bt317 => ((remontoirref01_Digits.f k a0).bind fun bt328 => (if bt317.1 = bt328.1 then (if bt317.2.1 = bt328.2.1 then (if bt317.2.2.1 = bt328.2.2.1 then (if bt317.2.2.2.1 = bt328.2.2.2.1 then (if bt317.2.2.2.2.1 = bt328.2.2.2.2.1 then (if bt317.2.2.2.2.2.1 = bt328.2.2.2.2.2.1 then (if bt317.2.2.2.2.2.2.1 = bt328.2.2.2.2.2.2.1 then (if bt317.2.2.2.2.2.2.2.1 = bt328.2.2.2.2.2.2.2.1 then (if bt317.2.2.2.2.2.2.2.2.1 = bt328.2.2.2.2.2.2.2.2.1 then (if bt317.2.2.2.2.2.2.2.2.2.1 = bt328.2.2.2.2.2.2.2.2.2.1 then (if bt317.2.2.2.2.2.2.2.2.2.2 = bt328.2.2.2.2.2.2.2.2.2.2 then ((tick_Top.f a0 a1).bind fun t339 => ((remontoirref01_Top.f k a0 a1).bind fun t340 => (if t339 = t340 then ((remontoirlaw01_wakes.f k).bind fun t341 => (some t341)) else (none)))) else (none)) else (none)) else (none)) else (none)) else (none)) else (none)) else (none)) else (none)) else (none)) else (none)) else (none)))) else (none)) = some r := H
        have A14 := Aside0.mk A140
        clear A140
        by_cases c15 : t315 = t316
        · rw [if_pos c15] at H
          have c15b0 : (t315 == t316) = true := beq_iff_eq.mpr c15
          have c15b1 : (t315 != t316) = false := bne_eq_false_iff_eq.mpr c15
          clear c15
          replace H := Option.bind_eq_some_iff.mp H
          obtain ⟨⟨t317, t318, t319, t320, t321, t322, t323, t324, t325, t326, t327⟩, A160, H⟩ := H
          replace H : ((remontoirref01_Digits.f k a0).bind fun bt328 => (if t317 = bt328.1 then (if t318 = bt328.2.1 then (if t319 = bt328.2.2.1 then (if t320 = bt328.2.2.2.1 then (if t321 = bt328.2.2.2.2.1 then (if t322 = bt328.2.2.2.2.2.1 then (if t323 = bt328.2.2.2.2.2.2.1 then (if t324 = bt328.2.2.2.2.2.2.2.1 then (if t325 = bt328.2.2.2.2.2.2.2.2.1 then (if t326 = bt328.2.2.2.2.2.2.2.2.2.1 then (if t327 = bt328.2.2.2.2.2.2.2.2.2.2 then ((tick_Top.f a0 a1).bind fun t339 => ((remontoirref01_Top.f k a0 a1).bind fun t340 => (if t339 = t340 then ((remontoirlaw01_wakes.f k).bind fun t341 => (some t341)) else (none)))) else (none)) else (none)) else (none)) else (none)) else (none)) else (none)) else (none)) else (none)) else (none)) else (none)) else (none))) = some r := H
          have A16 := Aside0.mk A160
          clear A160
          replace H := Option.bind_eq_some_iff.mp H
          obtain ⟨⟨t328, t329, t330, t331, t332, t333, t334, t335, t336, t337, t338⟩, A170, H⟩ := H
          replace H : (if t317 = t328 then (if t318 = t329 then (if t319 = t330 then (if t320 = t331 then (if t321 = t332 then (if t322 = t333 then (if t323 = t334 then (if t324 = t335 then (if t325 = t336 then (if t326 = t337 then (if t327 = t338 then ((tick_Top.f a0 a1).bind fun t339 => ((remontoirref01_Top.f k a0 a1).bind fun t340 => (if t339 = t340 then ((remontoirlaw01_wakes.f k).bind fun t341 => (some t341)) else (none)))) else (none)) else (none)) else (none)) else (none)) else (none)) else (none)) else (none)) else (none)) else (none)) else (none)) else (none)) = some r := H
          have A17 := Aside0.mk A170
          clear A170
          by_cases c18 : t317 = t328
          · rw [if_pos c18] at H
            have c18b0 : (t317 == t328) = true := beq_iff_eq.mpr c18
            have c18b1 : (t317 != t328) = false := bne_eq_false_iff_eq.mpr c18
            clear c18
            by_cases c19 : t318 = t329
            · rw [if_pos c19] at H
              have c19b0 : (t318 == t329) = true := beq_iff_eq.mpr c19
              have c19b1 : (t318 != t329) = false := bne_eq_false_iff_eq.mpr c19
              clear c19
              by_cases c20 : t319 = t330
              · rw [if_pos c20] at H
                have c20b0 : (t319 == t330) = true := beq_iff_eq.mpr c20
                have c20b1 : (t319 != t330) = false := bne_eq_false_iff_eq.mpr c20
                clear c20
                by_cases c21 : t320 = t331
                · rw [if_pos c21] at H
                  have c21b0 : (t320 == t331) = true := beq_iff_eq.mpr c21
                  have c21b1 : (t320 != t331) = false := bne_eq_false_iff_eq.mpr c21
                  clear c21
                  by_cases c22 : t321 = t332
                  · rw [if_pos c22] at H
                    have c22b0 : (t321 == t332) = true := beq_iff_eq.mpr c22
                    have c22b1 : (t321 != t332) = false := bne_eq_false_iff_eq.mpr c22
                    clear c22
                    by_cases c23 : t322 = t333
                    · rw [if_pos c23] at H
                      have c23b0 : (t322 == t333) = true := beq_iff_eq.mpr c23
                      have c23b1 : (t322 != t333) = false := bne_eq_false_iff_eq.mpr c23
                      clear c23
                      by_cases c24 : t323 = t334
                      · rw [if_pos c24] at H
                        have c24b0 : (t323 == t334) = true := beq_iff_eq.mpr c24
                        have c24b1 : (t323 != t334) = false := bne_eq_false_iff_eq.mpr c24
                        clear c24
                        by_cases c25 : t324 = t335
                        · rw [if_pos c25] at H
                          have c25b0 : (t324 == t335) = true := beq_iff_eq.mpr c25
                          have c25b1 : (t324 != t335) = false := bne_eq_false_iff_eq.mpr c25
                          clear c25
                          by_cases c26 : t325 = t336
                          · rw [if_pos c26] at H
                            have c26b0 : (t325 == t336) = true := beq_iff_eq.mpr c26
                            have c26b1 : (t325 != t336) = false := bne_eq_false_iff_eq.mpr c26
                            clear c26
                            by_cases c27 : t326 = t337
                            · rw [if_pos c27] at H
                              have c27b0 : (t326 == t337) = true := beq_iff_eq.mpr c27
                              have c27b1 : (t326 != t337) = false := bne_eq_false_iff_eq.mpr c27
                              clear c27
                              by_cases c28 : t327 = t338
                              · rw [if_pos c28] at H
                                have c28b0 : (t327 == t338) = true := beq_iff_eq.mpr c28
                                have c28b1 : (t327 != t338) = false := bne_eq_false_iff_eq.mpr c28
                                clear c28
                                replace H := Option.bind_eq_some_iff.mp H
                                obtain ⟨t339, A290, H⟩ := H
                                replace H : ((remontoirref01_Top.f k a0 a1).bind fun t340 => (if t339 = t340 then ((remontoirlaw01_wakes.f k).bind fun t341 => (some t341)) else (none))) = some r := H
                                have A29 := Aside0.mk A290
                                clear A290
                                replace H := Option.bind_eq_some_iff.mp H
                                obtain ⟨t340, A300, H⟩ := H
                                replace H : (if t339 = t340 then ((remontoirlaw01_wakes.f k).bind fun t341 => (some t341)) else (none)) = some r := H
                                have A30 := Aside0.mk A300
                                clear A300
                                by_cases c31 : t339 = t340
                                · rw [if_pos c31] at H
                                  have c31b0 : (t339 == t340) = true := beq_iff_eq.mpr c31
                                  have c31b1 : (t339 != t340) = false := bne_eq_false_iff_eq.mpr c31
                                  clear c31
                                  replace H := Option.bind_eq_some_iff.mp H
                                  obtain ⟨t341, A320, H⟩ := H
                                  replace H : (some t341) = some r := H
                                  have A32 := Aside0.mk A320
                                  clear A320
                                  obtain rfl := Option.some.inj H
                                  go_enter Try.func7, Try.ntmps7
                                  go_wp2_with (first | ((with_reducible refine gate_dst (N := 5) rfl ?_); refine box_event ?hg (N := 5) ?hd (cs := #[.int .i64 a2_0, .int .i64 a2_1, .int .i64 a2_2, .int .i64 a2_3, .int .i64 a2_4, .int .i64 a2_5, .int .i64 a2_6, .int .i64 a2_7, .int .i64 a2_8, .int .i64 a2_9, .int .i64 a2_10]) (t := 24) ?hr ?_; (case hd => rfl); (case hg => rfl); (case hr => first | (go_simp; done) | (go_simp; rfl)); intro gb302 hg w33 hbox hb; have n0_ := Aside0.mk (below_step (by repeat (first | (with_reducible first | exact HB.out | apply below_alloc | apply pw_below_drewN | apply below_drew1) | exact HB.out)) hb); have n1_ := Aside0.mk (hbox); have n2_ := Aside0.mk ((by rw [hg]; exact (below_size (by repeat (first | (with_reducible first | exact HB.out | apply below_alloc | apply pw_below_drewN | apply below_drew1) | exact HB.out))) : w.heap.size ≤ gb302)); have n3_ := Aside0.mk ((by rw [hg]; exact (below_size (by repeat (first | (with_reducible first | exact HB.out | apply below_alloc | apply pw_below_drewN | apply below_drew1) | exact HB.out))) : w.heap.size ≤ gb302)); clear HB; have HB := n0_; have BK302 := n1_; have GW302 := n2_; have GE302 := n3_; clear n0_ n1_ n2_ n3_; clear hb hbox hg) | ((with_reducible refine gate_callee (f := 11) rfl ?_); refine goesL_ (some 16) rfl rfl Try.func11 (by kernel_rfl) rfl #[.int .u64 a0, .int .u64 a1] rfl (by (try simp only [List.map_toArray, List.map_cons, List.map_nil]); first | done | rfl | (simp only [List.length_drop, List.length_take]; rfl)) ?_; (with_reducible refine (tick_Sum.calls a0 a1 t303 t304 _ A4.out (TabOk.below HT0.out (by repeat (first | (with_reducible first | exact HB.out | apply below_alloc | apply pw_below_drewN | apply below_drew1 | refine below_set ?_ GE302.out) | exact HB.out)))).mono ?_); rintro e w34 ⟨rfl, hb⟩; refine ⟨_, rfl, ?_⟩; have n0_ := Aside0.mk (blk_below (g := gb302) (o := .cells #[.int .i64 a2_0, .int .i64 a2_1, .int .i64 a2_2, .int .i64 a2_3, .int .i64 a2_4, .int .i64 a2_5, .int .i64 a2_6, .int .i64 a2_7, .int .i64 a2_8, .int .i64 a2_9, .int .i64 a2_10] 24 (0, 0)) (by (with_reducible repeat (first | refine blk_drewN ?_ _ | refine blk_drew ?_ | refine blk_alloc ?_ _)); exact BK302.out) hb); have n1_ := Aside0.mk (below_step (by repeat (first | (with_reducible first | exact HB.out | apply below_alloc | apply pw_below_drewN | apply below_drew1 | refine below_set ?_ GE302.out) | exact HB.out)) hb); clear BK302; clear HB; have BK302 := n0_; have HB := n1_; clear n0_ n1_; (try clear hb); (try clear hb2); (try clear hk); (try clear hi)) | ((with_reducible refine gate_callee (f := 13) rfl ?_); refine goesL_ (some 22) rfl rfl Try.func13 (by kernel_rfl) rfl #[.int .u64 a0, .int .u64 a1] rfl (by (try simp only [List.map_toArray, List.map_cons, List.map_nil]); first | done | rfl | (simp only [List.length_drop, List.length_take]; rfl)) ?_; (with_reducible refine (tick_Times.calls a0 a1 t305 t306 _ A5.out (TabOk.below HT0.out (by repeat (first | (with_reducible first | exact HB.out | apply below_alloc | apply pw_below_drewN | apply below_drew1 | refine below_set ?_ GE302.out) | exact HB.out)))).mono ?_); rintro e w35 ⟨rfl, hb⟩; refine ⟨_, rfl, ?_⟩; have n0_ := Aside0.mk (blk_below (g := gb302) (o := .cells #[.int .i64 a2_0, .int .i64 a2_1, .int .i64 a2_2, .int .i64 a2_3, .int .i64 a2_4, .int .i64 a2_5, .int .i64 a2_6, .int .i64 a2_7, .int .i64 a2_8, .int .i64 a2_9, .int .i64 a2_10] 24 (0, 0)) (by (with_reducible repeat (first | refine blk_drewN ?_ _ | refine blk_drew ?_ | refine blk_alloc ?_ _)); exact BK302.out) hb); have n1_ := Aside0.mk (below_step (by repeat (first | (with_reducible first | exact HB.out | apply below_alloc | apply pw_below_drewN | apply below_drew1 | refine below_set ?_ GE302.out) | exact HB.out)) hb); clear BK302; clear HB; have BK302 := n0_; have HB := n1_; clear n0_ n1_; (try clear hb); (try clear hb2); (try clear hk); (try clear hi); have hcz36_0 : w35.cell? ⟨gb302, 0, none⟩ = some (.int .i64 a2_0) := (blk_cell BK302.out 0).trans rfl; have hcz36_1 : w35.cell? ⟨gb302, 1, none⟩ = some (.int .i64 a2_1) := (blk_cell BK302.out 1).trans rfl; have hcz36_2 : w35.cell? ⟨gb302, 2, none⟩ = some (.int .i64 a2_2) := (blk_cell BK302.out 2).trans rfl; have hcz36_3 : w35.cell? ⟨gb302, 3, none⟩ = some (.int .i64 a2_3) := (blk_cell BK302.out 3).trans rfl; have hcz36_4 : w35.cell? ⟨gb302, 4, none⟩ = some (.int .i64 a2_4) := (blk_cell BK302.out 4).trans rfl; have hcz36_5 : w35.cell? ⟨gb302, 5, none⟩ = some (.int .i64 a2_5) := (blk_cell BK302.out 5).trans rfl; have hcz36_6 : w35.cell? ⟨gb302, 6, none⟩ = some (.int .i64 a2_6) := (blk_cell BK302.out 6).trans rfl; have hcz36_7 : w35.cell? ⟨gb302, 7, none⟩ = some (.int .i64 a2_7) := (blk_cell BK302.out 7).trans rfl; have hcz36_8 : w35.cell? ⟨gb302, 8, none⟩ = some (.int .i64 a2_8) := (blk_cell BK302.out 8).trans rfl; have hcz36_9 : w35.cell? ⟨gb302, 9, none⟩ = some (.int .i64 a2_9) := (blk_cell BK302.out 9).trans rfl; have hcz36_10 : w35.cell? ⟨gb302, 10, none⟩ = some (.int .i64 a2_10) := (blk_cell BK302.out 10).trans rfl; have hfz36_0 := blk_frozen BK302.out 0; have hfz36_1 := blk_frozen BK302.out 1; have hfz36_2 := blk_frozen BK302.out 2; have hfz36_3 := blk_frozen BK302.out 3; have hfz36_4 := blk_frozen BK302.out 4; have hfz36_5 := blk_frozen BK302.out 5; have hfz36_6 := blk_frozen BK302.out 6; have hfz36_7 := blk_frozen BK302.out 7; have hfz36_8 := blk_frozen BK302.out 8; have hfz36_9 := blk_frozen BK302.out 9; have hfz36_10 := blk_frozen BK302.out 10) | ((with_reducible refine gate_callee (f := 14) rfl ?_); refine goesL_ (some 27) rfl rfl Try.func14 (by kernel_rfl) rfl #[.agg #[.int .i64 a2_0, .int .i64 a2_1, .int .i64 a2_2, .int .i64 a2_3, .int .i64 a2_4, .int .i64 a2_5, .int .i64 a2_6, .int .i64 a2_7, .int .i64 a2_8, .int .i64 a2_9, .int .i64 a2_10]] rfl (by (try simp only [List.map_toArray, List.map_cons, List.map_nil]); first | done | rfl | (simp only [List.length_drop, List.length_take]; rfl)) ?_; (with_reducible refine (tick_Of.calls k a2_0 a2_1 a2_2 a2_3 a2_4 a2_5 a2_6 a2_7 a2_8 a2_9 a2_10 t307 t308 _ A6.out (TabOk.below HT0.out (by repeat (first | (with_reducible first | exact HB.out | apply below_alloc | apply pw_below_drewN | apply below_drew1 | refine below_set ?_ GE302.out) | exact HB.out)))).mono ?_); rintro e w37 ⟨rfl, hb⟩; refine ⟨_, rfl, ?_⟩; have n0_ := Aside0.mk (blk_below (g := gb302) (o := .cells #[.int .i64 a2_0, .int .i64 a2_1, .int .i64 a2_2, .int .i64 a2_3, .int .i64 a2_4, .int .i64 a2_5, .int .i64 a2_6, .int .i64 a2_7, .int .i64 a2_8, .int .i64 a2_9, .int .i64 a2_10] 24 (0, 0)) (by (with_reducible repeat (first | refine blk_drewN ?_ _ | refine blk_drew ?_ | refine blk_alloc ?_ _)); exact BK302.out) hb); have n1_ := Aside0.mk (below_step (by repeat (first | (with_reducible first | exact HB.out | apply below_alloc | apply pw_below_drewN | apply below_drew1 | refine below_set ?_ GE302.out) | exact HB.out)) hb); clear BK302; clear HB; have BK302 := n0_; have HB := n1_; clear n0_ n1_; (try clear hb); (try clear hb2); (try clear hk); (try clear hi)) | ((with_reducible refine gate_callee (f := 15) rfl ?_); refine goesL_ (some 35) rfl rfl Try.func15 (by kernel_rfl) rfl #[.int .u64 a0, .int .u64 a1] rfl (by (try simp only [List.map_toArray, List.map_cons, List.map_nil]); first | done | rfl | (simp only [List.length_drop, List.length_take]; rfl)) ?_; (with_reducible refine (remontoirref01_Sum.calls a0 a1 t309 t310 _ A7.out).mono ?_); rintro e w38 ⟨rfl, hb⟩; refine ⟨_, rfl, ?_⟩; have n0_ := Aside0.mk (blk_below (g := gb302) (o := .cells #[.int .i64 a2_0, .int .i64 a2_1, .int .i64 a2_2, .int .i64 a2_3, .int .i64 a2_4, .int .i64 a2_5, .int .i64 a2_6, .int .i64 a2_7, .int .i64 a2_8, .int .i64 a2_9, .int .i64 a2_10] 24 (0, 0)) (by (with_reducible repeat (first | refine blk_drewN ?_ _ | refine blk_drew ?_ | refine blk_alloc ?_ _)); exact BK302.out) hb); have n1_ := Aside0.mk (below_step (by repeat (first | (with_reducible first | exact HB.out | apply below_alloc | apply pw_below_drewN | apply below_drew1 | refine below_set ?_ GE302.out) | exact HB.out)) hb); clear BK302; clear HB; have BK302 := n0_; have HB := n1_; clear n0_ n1_; (try clear hb); (try clear hb2); (try clear hk); (try clear hi)) | (go_at_call 16; (with_reducible refine (remontoirref01_Times.calls a0 a1 t311 t312 _ A9.out).mono ?_); rintro e w39 ⟨rfl, hb⟩; have n0_ := Aside0.mk (blk_below (g := gb302) (o := .cells #[.int .i64 a2_0, .int .i64 a2_1, .int .i64 a2_2, .int .i64 a2_3, .int .i64 a2_4, .int .i64 a2_5, .int .i64 a2_6, .int .i64 a2_7, .int .i64 a2_8, .int .i64 a2_9, .int .i64 a2_10] 24 (0, 0)) (by (with_reducible repeat (first | refine blk_drewN ?_ _ | refine blk_drew ?_ | refine blk_alloc ?_ _)); exact BK302.out) hb); have n1_ := Aside0.mk (below_step (by repeat (first | (with_reducible first | exact HB.out | apply below_alloc | apply pw_below_drewN | apply below_drew1 | refine below_set ?_ GE302.out) | exact HB.out)) hb); clear BK302; clear HB; have BK302 := n0_; have HB := n1_; clear n0_ n1_; (try clear hb); (try clear hb2); (try clear hk); (try clear hi); have hcz40_0 : w39.cell? ⟨gb302, 0, none⟩ = some (.int .i64 a2_0) := (blk_cell BK302.out 0).trans rfl; have hcz40_1 : w39.cell? ⟨gb302, 1, none⟩ = some (.int .i64 a2_1) := (blk_cell BK302.out 1).trans rfl; have hcz40_2 : w39.cell? ⟨gb302, 2, none⟩ = some (.int .i64 a2_2) := (blk_cell BK302.out 2).trans rfl; have hcz40_3 : w39.cell? ⟨gb302, 3, none⟩ = some (.int .i64 a2_3) := (blk_cell BK302.out 3).trans rfl; have hcz40_4 : w39.cell? ⟨gb302, 4, none⟩ = some (.int .i64 a2_4) := (blk_cell BK302.out 4).trans rfl; have hcz40_5 : w39.cell? ⟨gb302, 5, none⟩ = some (.int .i64 a2_5) := (blk_cell BK302.out 5).trans rfl; have hcz40_6 : w39.cell? ⟨gb302, 6, none⟩ = some (.int .i64 a2_6) := (blk_cell BK302.out 6).trans rfl; have hcz40_7 : w39.cell? ⟨gb302, 7, none⟩ = some (.int .i64 a2_7) := (blk_cell BK302.out 7).trans rfl; have hcz40_8 : w39.cell? ⟨gb302, 8, none⟩ = some (.int .i64 a2_8) := (blk_cell BK302.out 8).trans rfl; have hcz40_9 : w39.cell? ⟨gb302, 9, none⟩ = some (.int .i64 a2_9) := (blk_cell BK302.out 9).trans rfl; have hcz40_10 : w39.cell? ⟨gb302, 10, none⟩ = some (.int .i64 a2_10) := (blk_cell BK302.out 10).trans rfl; have hfz40_0 := blk_frozen BK302.out 0; have hfz40_1 := blk_frozen BK302.out 1; have hfz40_2 := blk_frozen BK302.out 2; have hfz40_3 := blk_frozen BK302.out 3; have hfz40_4 := blk_frozen BK302.out 4; have hfz40_5 := blk_frozen BK302.out 5; have hfz40_6 := blk_frozen BK302.out 6; have hfz40_7 := blk_frozen BK302.out 7; have hfz40_8 := blk_frozen BK302.out 8; have hfz40_9 := blk_frozen BK302.out 9; have hfz40_10 := blk_frozen BK302.out 10) | (go_at_call 17; (with_reducible refine (remontoirref01_Of.calls k a2_0 a2_1 a2_2 a2_3 a2_4 a2_5 a2_6 a2_7 a2_8 a2_9 a2_10 t313 t314 _ A11.out).mono ?_); rintro e w41 ⟨rfl, hb⟩; have n0_ := Aside0.mk (blk_below (g := gb302) (o := .cells #[.int .i64 a2_0, .int .i64 a2_1, .int .i64 a2_2, .int .i64 a2_3, .int .i64 a2_4, .int .i64 a2_5, .int .i64 a2_6, .int .i64 a2_7, .int .i64 a2_8, .int .i64 a2_9, .int .i64 a2_10] 24 (0, 0)) (by (with_reducible repeat (first | refine blk_drewN ?_ _ | refine blk_drew ?_ | refine blk_alloc ?_ _)); exact BK302.out) hb); have n1_ := Aside0.mk (below_step (by repeat (first | (with_reducible first | exact HB.out | apply below_alloc | apply pw_below_drewN | apply below_drew1 | refine below_set ?_ GE302.out) | exact HB.out)) hb); clear BK302; clear HB; have BK302 := n0_; have HB := n1_; clear n0_ n1_; (try clear hb); (try clear hb2); (try clear hk); (try clear hi)) | (go_at_call 12; (with_reducible refine (tick_Held.calls a0 a1 t315 _ A13.out (TabOk.below HT0.out (by repeat (first | (with_reducible first | exact HB.out | apply below_alloc | apply pw_below_drewN | apply below_drew1 | refine below_set ?_ GE302.out) | exact HB.out)))).mono ?_); rintro e w42 ⟨rfl, hb⟩; have n0_ := Aside0.mk (blk_below (g := gb302) (o := .cells #[.int .i64 a2_0, .int .i64 a2_1, .int .i64 a2_2, .int .i64 a2_3, .int .i64 a2_4, .int .i64 a2_5, .int .i64 a2_6, .int .i64 a2_7, .int .i64 a2_8, .int .i64 a2_9, .int .i64 a2_10] 24 (0, 0)) (by (with_reducible repeat (first | refine blk_drewN ?_ _ | refine blk_drew ?_ | refine blk_alloc ?_ _)); exact BK302.out) hb); have n1_ := Aside0.mk (below_step (by repeat (first | (with_reducible first | exact HB.out | apply below_alloc | apply pw_below_drewN | apply below_drew1 | refine below_set ?_ GE302.out) | exact HB.out)) hb); clear BK302; clear HB; have BK302 := n0_; have HB := n1_; clear n0_ n1_; (try clear hb); (try clear hb2); (try clear hk); (try clear hi)) | (go_at_call 18; (with_reducible refine (remontoirref01_Held.calls a0 a1 t316 _ A14.out).mono ?_); rintro e w43 ⟨rfl, hb⟩; have n0_ := Aside0.mk (blk_below (g := gb302) (o := .cells #[.int .i64 a2_0, .int .i64 a2_1, .int .i64 a2_2, .int .i64 a2_3, .int .i64 a2_4, .int .i64 a2_5, .int .i64 a2_6, .int .i64 a2_7, .int .i64 a2_8, .int .i64 a2_9, .int .i64 a2_10] 24 (0, 0)) (by (with_reducible repeat (first | refine blk_drewN ?_ _ | refine blk_drew ?_ | refine blk_alloc ?_ _)); exact BK302.out) hb); have n1_ := Aside0.mk (below_step (by repeat (first | (with_reducible first | exact HB.out | apply below_alloc | apply pw_below_drewN | apply below_drew1 | refine below_set ?_ GE302.out) | exact HB.out)) hb); clear BK302; clear HB; have BK302 := n0_; have HB := n1_; clear n0_ n1_; (try clear hb); (try clear hb2); (try clear hk); (try clear hi)) | (go_at_call 9; (with_reducible refine (tick_Digits.calls k a0 t317 t318 t319 t320 t321 t322 t323 t324 t325 t326 t327 _ A16.out).mono ?_); rintro e w44 ⟨rfl, hb⟩; have n0_ := Aside0.mk (blk_below (g := gb302) (o := .cells #[.int .i64 a2_0, .int .i64 a2_1, .int .i64 a2_2, .int .i64 a2_3, .int .i64 a2_4, .int .i64 a2_5, .int .i64 a2_6, .int .i64 a2_7, .int .i64 a2_8, .int .i64 a2_9, .int .i64 a2_10] 24 (0, 0)) (by (with_reducible repeat (first | refine blk_drewN ?_ _ | refine blk_drew ?_ | refine blk_alloc ?_ _)); exact BK302.out) hb); have n1_ := Aside0.mk (below_step (by repeat (first | (with_reducible first | exact HB.out | apply below_alloc | apply pw_below_drewN | apply below_drew1 | refine below_set ?_ GE302.out) | exact HB.out)) hb); clear BK302; clear HB; have BK302 := n0_; have HB := n1_; clear n0_ n1_; (try clear hb); (try clear hb2); (try clear hk); (try clear hi)) | (go_at_call 19; (with_reducible refine (remontoirref01_Digits.calls k a0 t328 t329 t330 t331 t332 t333 t334 t335 t336 t337 t338 _ A17.out).mono ?_); rintro e w45 ⟨rfl, hb⟩; have n0_ := Aside0.mk (blk_below (g := gb302) (o := .cells #[.int .i64 a2_0, .int .i64 a2_1, .int .i64 a2_2, .int .i64 a2_3, .int .i64 a2_4, .int .i64 a2_5, .int .i64 a2_6, .int .i64 a2_7, .int .i64 a2_8, .int .i64 a2_9, .int .i64 a2_10] 24 (0, 0)) (by (with_reducible repeat (first | refine blk_drewN ?_ _ | refine blk_drew ?_ | refine blk_alloc ?_ _)); exact BK302.out) hb); have n1_ := Aside0.mk (below_step (by repeat (first | (with_reducible first | exact HB.out | apply below_alloc | apply pw_below_drewN | apply below_drew1 | refine below_set ?_ GE302.out) | exact HB.out)) hb); clear BK302; clear HB; have BK302 := n0_; have HB := n1_; clear n0_ n1_; (try clear hb); (try clear hb2); (try clear hk); (try clear hi)) | (go_at_call 8; (with_reducible refine (tick_Top.calls a0 a1 t339 _ A29.out (TabOk.below HT0.out (by repeat (first | (with_reducible first | exact HB.out | apply below_alloc | apply pw_below_drewN | apply below_drew1 | refine below_set ?_ GE302.out) | exact HB.out)))).mono ?_); rintro e w46 ⟨rfl, hb⟩; have n0_ := Aside0.mk (blk_below (g := gb302) (o := .cells #[.int .i64 a2_0, .int .i64 a2_1, .int .i64 a2_2, .int .i64 a2_3, .int .i64 a2_4, .int .i64 a2_5, .int .i64 a2_6, .int .i64 a2_7, .int .i64 a2_8, .int .i64 a2_9, .int .i64 a2_10] 24 (0, 0)) (by (with_reducible repeat (first | refine blk_drewN ?_ _ | refine blk_drew ?_ | refine blk_alloc ?_ _)); exact BK302.out) hb); have n1_ := Aside0.mk (below_step (by repeat (first | (with_reducible first | exact HB.out | apply below_alloc | apply pw_below_drewN | apply below_drew1 | refine below_set ?_ GE302.out) | exact HB.out)) hb); clear BK302; clear HB; have BK302 := n0_; have HB := n1_; clear n0_ n1_; (try clear hb); (try clear hb2); (try clear hk); (try clear hi)) | (go_at_call 20; (with_reducible refine (remontoirref01_Top.calls k a0 a1 t340 _ A30.out).mono ?_); rintro e w47 ⟨rfl, hb⟩; have n0_ := Aside0.mk (blk_below (g := gb302) (o := .cells #[.int .i64 a2_0, .int .i64 a2_1, .int .i64 a2_2, .int .i64 a2_3, .int .i64 a2_4, .int .i64 a2_5, .int .i64 a2_6, .int .i64 a2_7, .int .i64 a2_8, .int .i64 a2_9, .int .i64 a2_10] 24 (0, 0)) (by (with_reducible repeat (first | refine blk_drewN ?_ _ | refine blk_drew ?_ | refine blk_alloc ?_ _)); exact BK302.out) hb); have n1_ := Aside0.mk (below_step (by repeat (first | (with_reducible first | exact HB.out | apply below_alloc | apply pw_below_drewN | apply below_drew1 | refine below_set ?_ GE302.out) | exact HB.out)) hb); clear BK302; clear HB; have BK302 := n0_; have HB := n1_; clear n0_ n1_; (try clear hb); (try clear hb2); (try clear hk); (try clear hi)) | (go_at_call 10; (with_reducible refine (remontoirlaw01_wakes.calls k  t341 _ A32.out (TabOk.below HT0.out (by repeat (first | (with_reducible first | exact HB.out | apply below_alloc | apply pw_below_drewN | apply below_drew1 | refine below_set ?_ GE302.out) | exact HB.out)))).mono ?_); rintro e w48 ⟨rfl, hb⟩; have n0_ := Aside0.mk (blk_below (g := gb302) (o := .cells #[.int .i64 a2_0, .int .i64 a2_1, .int .i64 a2_2, .int .i64 a2_3, .int .i64 a2_4, .int .i64 a2_5, .int .i64 a2_6, .int .i64 a2_7, .int .i64 a2_8, .int .i64 a2_9, .int .i64 a2_10] 24 (0, 0)) (by (with_reducible repeat (first | refine blk_drewN ?_ _ | refine blk_drew ?_ | refine blk_alloc ?_ _)); exact BK302.out) hb); have n1_ := Aside0.mk (below_step (by repeat (first | (with_reducible first | exact HB.out | apply below_alloc | apply pw_below_drewN | apply below_drew1 | refine below_set ?_ GE302.out) | exact HB.out)) hb); clear BK302; clear HB; have BK302 := n0_; have HB := n1_; clear n0_ n1_; (try clear hb); (try clear hb2); (try clear hk); (try clear hi)))
                                  go_ret
                                  exact ⟨by first | rfl | (simp [errW_none, errW_some] <;> rfl) | (simp [*, errW_none, errW_some] <;> rfl), by repeat (first | (with_reducible first | exact HB.out | apply below_alloc | apply pw_below_drewN | apply below_drew1 | refine below_set ?_ GE302.out) | exact HB.out)⟩
                                · rw [if_neg c31] at H
                                  exact absurd H (by simp)
                              · rw [if_neg c28] at H
                                exact absurd H (by simp)
                            · rw [if_neg c27] at H
                              exact absurd H (by simp)
                          · rw [if_neg c26] at H
                            exact absurd H (by simp)
                        · rw [if_neg c25] at H
                          exact absurd H (by simp)
                      · rw [if_neg c24] at H
                        exact absurd H (by simp)
                    · rw [if_neg c23] at H
                      exact absurd H (by simp)
                  · rw [if_neg c22] at H
                    exact absurd H (by simp)
                · rw [if_neg c21] at H
                  exact absurd H (by simp)
              · rw [if_neg c20] at H
                exact absurd H (by simp)
            · rw [if_neg c19] at H
              exact absurd H (by simp)
          · rw [if_neg c18] at H
            exact absurd H (by simp)
        · rw [if_neg c15] at H
          exact absurd H (by simp)
      · rw [if_neg c12] at H
        exact absurd H (by simp)
    · rw [if_neg c10] at H
      exact absurd H (by simp)
  · rw [if_neg c8] at H
    exact absurd H (by simp)

end Go.Proofs.Ytfkknipkfcmiaaa.PAll
