/- TickTells: the code and the reference tell the same; then as a call. Conditions: none. -/
import Derived.Test.YtfkknipkfcmiaaaCore
import Derived.Test.YtfkknipkfcmiaaaPAllx10
import Derived.OpenShut
namespace Go.Proofs.Ytfkknipkfcmiaaa.CallTickTells
open Go.RowKit Go.Proofs.Ytfkknipkfcmiaaa.PAll Go.Proofs.Ytfkknipkfcmiaaa.Add Go.Proofs.YtfkknipkfcmiaaaW.PrintWords Go.Proofs.YtfkknipkfcmiaaaW.PrintLast Go.Proofs.YtfkknipkfcmiaaaW.PrintMore Go.Proofs.Ytfkknipkfcmiaaa.Core
theorem told (a b d0 d1 d2 d3 d4 d5 d6 d7 d8 d9 d10 : Int) (ha : U a) (hb : U b) : remontoirlaw01_TickTells.f 100 a b d0 d1 d2 d3 d4 d5 d6 d7 d8 d9 d10 = some true := by
  obtain ⟨s, s1, s2⟩ : ∃ s, tick_Sum.f a b = some s ∧ remontoirref01_Sum.f a b = some s := ⟨_, sum ha hb, rsum ha hb⟩
  obtain ⟨p, p1, p2⟩ : ∃ s, tick_Times.f a b = some s ∧ remontoirref01_Times.f a b = some s := ⟨_, mul ha hb, rmul ha hb⟩
  obtain ⟨h, h1, h2⟩ : ∃ s, tick_Held.f a b = some s ∧ remontoirref01_Held.f a b = some s := ⟨_, held ha hb, rheld ha hb⟩
  obtain ⟨o, o1, o2⟩ : ∃ s, tick_Of.f 100 d0 d1 d2 d3 d4 d5 d6 d7 d8 d9 d10 = some s ∧ remontoirref01_Of.f 100 d0 d1 d2 d3 d4 d5 d6 d7 d8 d9 d10 = some s := ⟨_, ofDigits 88 d0 d1 d2 d3 d4 d5 d6 d7 d8 d9 d10, rofDigits 88 d0 d1 d2 d3 d4 d5 d6 d7 d8 d9 d10⟩
  obtain ⟨g, g1, g2⟩ : ∃ s, tick_Digits.f 100 a = some s ∧ remontoirref01_Digits.f 100 a = some s := ⟨_, digits ha 88, rdigits ha 88⟩
  obtain ⟨t, t1, t2⟩ := top ha hb
  obtain ⟨t', u1, u2⟩ := rtop ha hb 88
  obtain rfl := t2.unique u2
  have wk : remontoirlaw01_wakes.f 100 = some true := wakes 88
  unfold remontoirlaw01_TickTells.f
  rw [s1, s2, p1, p2, h1, h2, o1, o2, g1, g2, t1, show remontoirref01_Top.f 100 a b = some t from u1, wk]
  simp only [Option.bind_some, beq_self_eq_true, Bool.and_self, if_true]
set_option linter.unusedVariables false
theorem calls (W : World) (a0 : Int) (w0 : (Lit.int .u64 a0).wf = true) (a1 : Int) (w1 : (Lit.int .u64 a1).wf = true) (a2_0 : Int) (w2_0 : (Lit.int .i64 a2_0).wf = true) (a2_1 : Int) (w2_1 : (Lit.int .i64 a2_1).wf = true) (a2_2 : Int) (w2_2 : (Lit.int .i64 a2_2).wf = true) (a2_3 : Int) (w2_3 : (Lit.int .i64 a2_3).wf = true) (a2_4 : Int) (w2_4 : (Lit.int .i64 a2_4).wf = true) (a2_5 : Int) (w2_5 : (Lit.int .i64 a2_5).wf = true) (a2_6 : Int) (w2_6 : (Lit.int .i64 a2_6).wf = true) (a2_7 : Int) (w2_7 : (Lit.int .i64 a2_7).wf = true) (a2_8 : Int) (w2_8 : (Lit.int .i64 a2_8).wf = true) (a2_9 : Int) (w2_9 : (Lit.int .i64 a2_9).wf = true) (a2_10 : Int) (w2_10 : (Lit.int .i64 a2_10).wf = true) :
    Calls Try.prog 7 #[.int .u64 a0, .int .u64 a1, .agg #[.int .i64 a2_0, .int .i64 a2_1, .int .i64 a2_2, .int .i64 a2_3, .int .i64 a2_4, .int .i64 a2_5, .int .i64 a2_6, .int .i64 a2_7, .int .i64 a2_8, .int .i64 a2_9, .int .i64 a2_10]] W fun e w' => e = .returned (.bool true) ∧ Below W.heap.size W w' := by
  have h0 := Go.bounds_u64 w0
  have h1 := Go.bounds_u64 w1
  exact remontoirlaw01_TickTells.calls 100 a0 a1 a2_0 a2_1 a2_2 a2_3 a2_4 a2_5 a2_6 a2_7 a2_8 a2_9 a2_10 true W (told a0 a1 a2_0 a2_1 a2_2 a2_3 a2_4 a2_5 a2_6 a2_7 a2_8 a2_9 a2_10 (by unfold U; omega) (by unfold U; omega)) (Nat.zero_le _)
end Go.Proofs.Ytfkknipkfcmiaaa.CallTickTells
