/- TickSums: sums and products from either side, in any order, of a sum; then as a call. Conditions: none. -/
import Derived.Test.YtfkknipkfcmiaaaCore
import Derived.Test.YtfkknipkfcmiaaaPAllx3
import Derived.OpenShut
namespace Go.Proofs.Ytfkknipkfcmiaaa.CallTickSums
open Go.RowKit Go.Proofs.Ytfkknipkfcmiaaa.PAll Go.Proofs.Ytfkknipkfcmiaaa.Add Go.Proofs.YtfkknipkfcmiaaaW.PrintWords Go.Proofs.YtfkknipkfcmiaaaW.PrintLast Go.Proofs.YtfkknipkfcmiaaaW.PrintMore Go.Proofs.Ytfkknipkfcmiaaa.Core
theorem sum1 {a b : Int} (ha : U a) (hb : U b) (h : a + b < 18446744073709551616) : tick_Sum.f a b = some (a + b, true) := by rw [Core.sum ha hb, if_pos h]
theorem sum0 {a b : Int} (ha : U a) (hb : U b) (h : ¬ a + b < 18446744073709551616) : tick_Sum.f a b = some (0, false) := by rw [Core.sum ha hb, if_neg h]
theorem mul1 {a b : Int} (ha : U a) (hb : U b) (h : a * b < 18446744073709551616) : tick_Times.f a b = some (a * b, true) := by rw [Core.mul ha hb, if_pos h]
theorem mul0 {a b : Int} (ha : U a) (hb : U b) (h : ¬ a * b < 18446744073709551616) : tick_Times.f a b = some (0, false) := by rw [Core.mul ha hb, if_neg h]
theorem U0 : U 0 := by unfold U; omega
theorem U_add {a b : Int} (ha : U a) (hb : U b) (h : a + b < 18446744073709551616) : U (a + b) := by unfold U at *; omega
theorem U_mul {a b : Int} (ha : U a) (hb : U b) (h : a * b < 18446744073709551616) : U (a * b) := ⟨Int.mul_nonneg ha.1 hb.1, h⟩
theorem j3_no (a z s g : Int) (k : Nat) : remontoirlaw01_TickSums.j3 (k + 13) a z s g false = some true := by
  have wk : remontoirlaw01_wakes.f (k + 12) = some true := wakes k
  rw [show k + 13 = (k + 12) + 1 from rfl, remontoirlaw01_TickSums.j3, if_neg (by decide), wk]
  rfl
theorem j3_yes {a b c : Int} (ha : U a) (hb : U b) (hc : U c) (hz : b + c < 18446744073709551616) (hs : a * b < 18446744073709551616) (hg : a * c < 18446744073709551616) (k : Nat) : remontoirlaw01_TickSums.j3 (k + 13) a (b + c) (a * b) (a * c) true = some true := by
  have wk : remontoirlaw01_wakes.f (k + 12) = some true := wakes k
  have e := Int.mul_add a b c
  rw [show k + 13 = (k + 12) + 1 from rfl, remontoirlaw01_TickSums.j3, if_pos rfl, wk]
  by_cases h : a * (b + c) < 18446744073709551616
  · rw [mul1 ha (U_add hb hc hz) h, sum1 (U_mul ha hb hs) (U_mul ha hc hg) (by rw [← e]; exact h), Option.bind_some, Option.bind_some, if_neg (show ¬ (true != true) = true by decide), if_pos rfl, if_pos e]
    rfl
  · rw [mul0 ha (U_add hb hc hz) h, sum0 (U_mul ha hb hs) (U_mul ha hc hg) (by rw [← e]; exact h), Option.bind_some, Option.bind_some, if_neg (show ¬ (false != false) = true by decide), if_neg (by decide)]
    rfl
theorem j2_ok {a b c : Int} (ha : U a) (hb : U b) (hc : U c) (z s : Int) (r i : Bool) (hr : r = true → z = b + c ∧ b + c < 18446744073709551616) (hi : i = true → s = a * b ∧ a * b < 18446744073709551616) (k : Nat) : remontoirlaw01_TickSums.j2 (k + 14) a c z r s i false = some true := by
  rw [show k + 14 = (k + 13) + 1 from rfl, remontoirlaw01_TickSums.j2, if_neg (by decide)]
  by_cases h : a * c < 18446744073709551616
  · rw [mul1 ha hc h, Option.bind_some]
    cases r with
    | false => rw [if_neg (by decide)]; exact j3_no _ _ _ _ k
    | true =>
      rw [if_pos rfl]
      cases i with
      | false => rw [if_neg (by decide)]; exact j3_no _ _ _ _ k
      | true =>
        obtain ⟨rfl, h1⟩ := hr rfl
        obtain ⟨rfl, h2⟩ := hi rfl
        rw [if_pos rfl]
        exact j3_yes ha hb hc h1 h2 h k
  · rw [mul0 ha hc h, Option.bind_some]
    cases r with
    | false => rw [if_neg (by decide)]; exact j3_no _ _ _ _ k
    | true =>
      rw [if_pos rfl]
      cases i with
      | false => rw [if_neg (by decide)]; exact j3_no _ _ _ _ k
      | true => rw [if_pos rfl]; exact j3_no _ _ _ _ k
theorem j1_ok {a b c : Int} (ha : U a) (hb : U b) (hc : U c) (z : Int) (r : Bool) (hr : r = true → z = b + c ∧ b + c < 18446744073709551616) (k : Nat) : remontoirlaw01_TickSums.j1 (k + 15) a b c z r false = some true := by
  have e := Int.mul_comm b a
  rw [show k + 15 = (k + 14) + 1 from rfl, remontoirlaw01_TickSums.j1, if_neg (by decide)]
  by_cases h : a * b < 18446744073709551616
  · rw [mul1 ha hb h, mul1 hb ha (by rw [e]; exact h), e, Option.bind_some, Option.bind_some, if_pos rfl, if_neg (show ¬ (true != true) = true by decide)]
    have fin := j2_ok ha hb hc z (a * b) r true hr (fun _ => ⟨rfl, h⟩) k
    by_cases h0 : a = 0
    · rw [if_pos h0, if_pos rfl, show ((a * b != 0) = false) by rw [h0, Int.zero_mul]; rfl]
      exact fin
    · rw [if_neg h0]
      exact fin
  · have h0 : ¬ a = 0 := by rintro rfl; rw [Int.zero_mul] at h; omega
    rw [mul0 ha hb h, mul0 hb ha (by rw [e]; exact h), Option.bind_some, Option.bind_some, if_pos rfl, if_neg (show ¬ (false != false) = true by decide), if_neg h0]
    exact j2_ok ha hb hc z 0 r false hr (fun hh => by cases hh) k
theorem j0_ok {a b c : Int} (ha : U a) (hb : U b) (hc : U c) (x : Int) (p : Bool) (h1 : p = true → x = a + b ∧ a + b < 18446744073709551616) (h0 : p = false → x = 0 ∧ ¬ a + b < 18446744073709551616) (k : Nat) : remontoirlaw01_TickSums.j0 (k + 16) a b c x p false = some true := by
  have nn : 0 ≤ a ∧ 0 ≤ b ∧ 0 ≤ c := ⟨ha.1, hb.1, hc.1⟩
  rw [show k + 16 = (k + 15) + 1 from rfl, remontoirlaw01_TickSums.j0, if_neg (by decide)]
  by_cases hr : b + c < 18446744073709551616
  · have fin := j1_ok ha hb hc (b + c) true (fun _ => ⟨rfl, hr⟩) k
    rw [sum1 hb hc hr, Option.bind_some]
    cases p with
    | true =>
      obtain ⟨rfl, hp⟩ := h1 rfl
      by_cases ht : a + b + c < 18446744073709551616
      · rw [sum1 (U_add ha hb hp) hc ht, sum1 ha (U_add hb hc hr) (by omega), Option.bind_some, Option.bind_some, if_pos rfl, if_pos rfl, if_neg (show ¬ (true != true) = true by decide), if_pos rfl, show ((a + b + c != a + (b + c)) = false) by rw [bne_eq_false_iff_eq]; omega]
        exact fin
      · rw [sum0 (U_add ha hb hp) hc ht, sum0 ha (U_add hb hc hr) (by omega), Option.bind_some, Option.bind_some, if_pos rfl, if_pos rfl, if_neg (show ¬ (false != false) = true by decide), if_neg (by decide)]
        exact fin
    | false =>
      obtain ⟨rfl, hp⟩ := h0 rfl
      have hc1 := hc.2
      rw [sum1 U0 hc (by omega), sum0 ha (U_add hb hc hr) (by omega), Option.bind_some, Option.bind_some, if_neg (by decide), if_pos rfl, if_neg (show ¬ (false != false) = true by decide)]
      exact fin
  · have fin := j1_ok ha hb hc 0 false (fun hh => by cases hh) k
    have ha1 := ha.2
    have hc1 := hc.2
    rw [sum0 hb hc hr, Option.bind_some]
    cases p with
    | true =>
      obtain ⟨rfl, hp⟩ := h1 rfl
      rw [sum0 (U_add ha hb hp) hc (by omega), sum1 ha U0 (by omega), Option.bind_some, Option.bind_some, if_pos rfl, if_neg (by decide), if_neg (show ¬ (false != false) = true by decide), if_neg (by decide)]
      exact fin
    | false =>
      obtain ⟨rfl, hp⟩ := h0 rfl
      rw [sum1 U0 hc (by omega), sum1 ha U0 (by omega), Option.bind_some, Option.bind_some, if_neg (by decide), if_neg (by decide)]
      exact fin
theorem told (a b c : Int) (ha : U a) (hb : U b) (hc : U c) : remontoirlaw01_TickSums.f 16 a b c = some true := by
  unfold remontoirlaw01_TickSums.f
  by_cases h : a + b < 18446744073709551616
  · rw [sum1 ha hb h, sum1 hb ha (by omega), held ha hb, Option.bind_some, Option.bind_some, if_pos (Int.add_comm a b), if_neg (show ¬ (true != true) = true by decide), if_pos rfl, Option.bind_some, if_pos h, if_pos rfl]
    exact j0_ok ha hb hc (a + b) true (fun _ => ⟨rfl, h⟩) (fun hh => by cases hh) 0
  · rw [sum0 ha hb h, sum0 hb ha (by omega), held ha hb, Option.bind_some, Option.bind_some, if_pos rfl, if_neg (show ¬ (false != false) = true by decide), if_neg (by decide), if_pos rfl, Option.bind_some, if_neg h]
    exact j0_ok ha hb hc 0 false (fun hh => by cases hh) (fun _ => ⟨rfl, h⟩) 0
set_option linter.unusedVariables false
theorem calls (W : World) (a0 : Int) (w0 : (Lit.int .u64 a0).wf = true) (a1 : Int) (w1 : (Lit.int .u64 a1).wf = true) (a2 : Int) (w2 : (Lit.int .u64 a2).wf = true) :
    Calls Try.prog 5 #[.int .u64 a0, .int .u64 a1, .int .u64 a2] W fun e w' => e = .returned (.bool true) ∧ Below W.heap.size W w' := by
  have h0 := Go.bounds_u64 w0
  have h1 := Go.bounds_u64 w1
  have h2 := Go.bounds_u64 w2
  exact remontoirlaw01_TickSums.calls 16 a0 a1 a2 true W (told a0 a1 a2 (by unfold U; omega) (by unfold U; omega) (by unfold U; omega)) (Nat.zero_le _)
end Go.Proofs.Ytfkknipkfcmiaaa.CallTickSums
