/- tick.Sum, bits.Len64 and bits.Mul64 as calls: the sum, where it fits (bits.Add64 is the model's own entry); the number of bits; the product's halves (both turned from the shelf's proofs of the same texts). No premise: the fact on a table is empty here. -/
import Derived.Test.YtedolmjealgeoaaDoorProg
import Derived.WalkKit
import Derived.Below
import Derived.KernelRfl
import Derived.Laws.Externs
import Derived.Lib.Strings
import Derived.Lib.Slices
import Derived.Lib.Small
import Derived.Lib.Walk
import Derived.Lib.BitFns
import Derived.Deep.Light
import Derived.ChangeKeysEq
import Derived.Laws.StructEq
import Derived.Laws.Bits64b
namespace Go.Proofs.YtedolmjealgeoaaDoor.Add
open Go.RowKit
/-- No table is asked. -/
def TabOk (w : World) : Prop := 0 ≤ w.heap.size
theorem TabOk.below {w w' : World} (_ : TabOk w) (_ : Below w.heap.size w w') : TabOk w' := Nat.zero_le _
def tick_Sum.f (a b : Int) : Option (Int × Bool) := if 0 ≤ a then if 0 ≤ b then some (if (a + b) / 18446744073709551616 = 0 then ((a + b) % 18446744073709551616, true) else (0, false)) else none else none
theorem run_add (x y : Int) (hx : 0 ≤ x) (hy : 0 ≤ y) (w : World) :
    (callFunc 97 #[.int .u64 x, .int .u64 y, .int .u64 0]).run Tryd.prog w = .ok (.value (.tuple #[.int .u64 ((x + y + 0) % 18446744073709551616), .int .u64 ((x + y + 0) / 18446744073709551616)])) w := by
  rw [run_callFunc_extern Tryd.func97 (by kernel_rfl) (by kernel_rfl) (by kernel_rfl) (e := add64Entry) (by kernel_rfl), run_add64 x y 0 hx hy (by omega) (by omega)]
  rfl
set_option linter.unusedVariables false
theorem tick_Sum.calls (a b r1 : Int) (r2 : Bool) (w : World) (h : tick_Sum.f a b = some (r1, r2)) (hT0 : TabOk w) :
    Calls Tryd.prog 72 #[.int .u64 a, .int .u64 b] w fun e w' => e = .returned (.tuple #[.int .u64 r1, .bool r2]) ∧ Below w.heap.size w w' := by
  unfold tick_Sum.f at h
  by_cases h0 : 0 ≤ a
  · rw [if_pos h0] at h
    by_cases h1 : 0 ≤ b
    · rw [if_pos h1] at h
      have h := Option.some.inj h
      by_cases hc : (a + b) / 18446744073709551616 = 0
      · rw [if_pos hc] at h
        injection h with e1 e2
        subst e1 e2
        have hc' : (((a + b + 0) / 18446744073709551616 : Int) == 0) = true := by rw [Int.add_zero, hc]; rfl
        go_enter Tryd.func72, Tryd.ntmps72
        go_wp2_with (simp only [run_add a b h0 h1])
        go_ret2
        exact ⟨rfl, Below.refl _ _⟩
      · rw [if_neg hc] at h
        injection h with e1 e2
        subst e1 e2
        have hc' : (((a + b + 0) / 18446744073709551616 : Int) == 0) = false := by rw [Int.add_zero, beq_eq_false_iff_ne]; exact hc
        go_enter Tryd.func72, Tryd.ntmps72
        go_wp2_with (simp only [run_add a b h0 h1])
        go_ret2
        exact ⟨rfl, Below.refl _ _⟩
    · rw [if_neg h1] at h; cases h
  · rw [if_neg h0] at h; cases h
set_option maxRecDepth 100000 in
theorem len8tab_size : (Lib.len8tab.size : Int) = 256 := by
  have : Lib.len8tab.size = 256 := by decide
  omega
theorem wrap_add (k a b : Nat) (hk : k ≤ 56) (ha : a ≤ 8) (hb : b = k + a) : wrap64 ((k : Int) + wrap64 (a : Int)) = (b : Int) := by
  unfold wrap64
  omega
theorem wrap_wrap (a : Nat) (ha : a ≤ 8) : wrap64 (wrap64 (a : Int)) = (a : Int) := by
  unfold wrap64
  omega
theorem wrap_one (a : Nat) (ha : a ≤ 8) : wrap64 (a : Int) = (a : Int) := by
  unfold wrap64
  omega
theorem len8_get (y : Int) (h : y.toNat < Lib.len8tab.size) : ((Lib.len8tab[y.toNat]'h).toNat : Int) = Lib.len8 y := by
  unfold Lib.len8
  rw [getElem?_pos Lib.len8tab y.toNat h]
  rfl

set_option maxHeartbeats 32000000 in
set_option maxRecDepth 1000000 in
theorem len (x : Int) (w : World) (h0 : 0 ≤ x) (h1 : x ≤ 18446744073709551615) :
    Calls Tryd.prog 80 #[.int .u64 x] w fun e w' => e = .returned (.int .i64 (Lib.bitLen x.toNat)) ∧ w' = w := by
  go_enter Tryd.func80, Tryd.ntmps80
  go_wp2
  all_goals first
    | (go_ret; refine ⟨congrArg Ending.returned (congrArg (Value.int IntKind.i64) ?_), rfl⟩; go_light)
    | (exfalso
       go_light
       have hs := len8tab_size
       omega)
  all_goals first
    | (rw [len8_get (x / 4294967296 / 65536 / 256) _, Lib.len8_of (x / 4294967296 / 65536 / 256) (by omega) (by omega)]
       have e : (x / 4294967296 / 65536 / 256).toNat = x.toNat / 72057594037927936 := by omega
       have l := Lib.bitLen_le8' (x / 4294967296 / 65536 / 256) (by omega) (by omega)
       have s := Lib.bitLen_shift56 x.toNat (by omega) (by omega)
       rw [e] at l ⊢
       exact wrap_add 56 _ _ (by decide) l s)
    | (rw [len8_get (x / 4294967296 / 65536) _, Lib.len8_of (x / 4294967296 / 65536) (by omega) (by omega)]
       have e : (x / 4294967296 / 65536).toNat = x.toNat / 281474976710656 := by omega
       have l := Lib.bitLen_le8' (x / 4294967296 / 65536) (by omega) (by omega)
       have s := Lib.bitLen_shift48 x.toNat (by omega) (by omega)
       rw [e] at l ⊢
       exact wrap_add 48 _ _ (by decide) l s)
    | (rw [len8_get (x / 4294967296 / 256) _, Lib.len8_of (x / 4294967296 / 256) (by omega) (by omega)]
       have e : (x / 4294967296 / 256).toNat = x.toNat / 1099511627776 := by omega
       have l := Lib.bitLen_le8' (x / 4294967296 / 256) (by omega) (by omega)
       have s := Lib.bitLen_shift40 x.toNat (by omega) (by omega)
       rw [e] at l ⊢
       exact wrap_add 40 _ _ (by decide) l s)
    | (rw [len8_get (x / 4294967296) _, Lib.len8_of (x / 4294967296) (by omega) (by omega)]
       have e : (x / 4294967296).toNat = x.toNat / 4294967296 := by omega
       have l := Lib.bitLen_le8' (x / 4294967296) (by omega) (by omega)
       have s := Lib.bitLen_shift32 x.toNat (by omega) (by omega)
       rw [e] at l ⊢
       exact wrap_add 32 _ _ (by decide) l s)
    | (rw [len8_get (x / 65536 / 256) _, Lib.len8_of (x / 65536 / 256) (by omega) (by omega)]
       have e : (x / 65536 / 256).toNat = x.toNat / 16777216 := by omega
       have l := Lib.bitLen_le8' (x / 65536 / 256) (by omega) (by omega)
       have s := Lib.bitLen_shift24 x.toNat (by omega) (by omega)
       rw [e] at l ⊢
       exact wrap_add 24 _ _ (by decide) l s)
    | (rw [len8_get (x / 65536) _, Lib.len8_of (x / 65536) (by omega) (by omega)]
       have e : (x / 65536).toNat = x.toNat / 65536 := by omega
       have l := Lib.bitLen_le8' (x / 65536) (by omega) (by omega)
       have s := Lib.bitLen_shift16 x.toNat (by omega) (by omega)
       rw [e] at l ⊢
       exact wrap_add 16 _ _ (by decide) l s)
    | (rw [len8_get (x / 256) _, Lib.len8_of (x / 256) (by omega) (by omega)]
       have e : (x / 256).toNat = x.toNat / 256 := by omega
       have l := Lib.bitLen_le8' (x / 256) (by omega) (by omega)
       have s := Lib.bitLen_shift8 x.toNat (by omega) (by omega)
       rw [e] at l ⊢
       exact wrap_add 8 _ _ (by decide) l s)
    | (rw [len8_get (x) _, Lib.len8_of (x) (by omega) (by omega)]
       have e : (x).toNat = x.toNat := by omega
       have l := Lib.bitLen_le8' (x) (by omega) (by omega)
       rw [e] at l ⊢
       first | exact wrap_wrap _ l | exact wrap_add 0 _ _ (by decide) l (by omega) | exact wrap_one _ l)
def bits_Len64.f (a : Int) : Option Int := if 0 ≤ a then if a ≤ 18446744073709551615 then some ((Lib.bitLen a.toNat : Nat) : Int) else none else none
set_option linter.unusedVariables false
theorem bits_Len64.calls (a r : Int) (w : World) (h : bits_Len64.f a = some r) (hT0 : TabOk w) :
    Calls Tryd.prog 80 #[.int .u64 a] w fun e w' => e = .returned (.int .i64 r) ∧ Below w.heap.size w w' := by
  unfold bits_Len64.f at h
  by_cases h0 : 0 ≤ a
  · rw [if_pos h0] at h
    by_cases h1 : a ≤ 18446744073709551615
    · rw [if_pos h1] at h
      obtain rfl := Option.some.inj h
      refine (len a w h0 h1).mono fun e w' hh => ⟨hh.1, ?_⟩
      rw [hh.2]
      exact Below.refl _ _
    · rw [if_neg h1] at h; cases h
  · rw [if_neg h0] at h; cases h
/-! ### The product -/
end Go.Proofs.YtedolmjealgeoaaDoor.Add
