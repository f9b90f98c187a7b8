/- math/bits.TrailingZeros64 as a call, where its table lies as its initialiser lays it: the number of trailing noughts. Conditions: the table's cells (TabOk), which stay below every call. Turned from the shelf's proof of the same text. -/
import Derived.Test.YtedolmjealgeoaaDoorProg
import Derived.WalkKit
import Derived.Below
import Derived.KernelRfl
import Derived.Laws.Bits64b
import Derived.Lib.TrailingZeros
namespace Go.Proofs.YtedolmjealgeoaaDoor.Tz
open Go.RowKit
/-- The table in its variable. -/
def TabOk (w : World) : Prop := ∀ j, j < Lib.deBruijn64tab.length → w.cell? ⟨0, j, none⟩ = some (.int .u8 (Lib.deBruijn64tab.getD j 0))
theorem TabOk.below {w w' : World} (h : TabOk w) (hb : Below w.heap.size w w') : TabOk w' := fun j hj => (hb.cell (World.block_lt_of_cell? w _ (h j hj))).trans (h j hj)
def bits_TrailingZeros64.f (a : Int) : Option Int := if 0 ≤ a then if a < 18446744073709551616 then some ((Lib.ctz 64 a.toNat : Nat) : Int) else none else none
set_option maxHeartbeats 1000000 in
theorem core (x k idx : Nat) (w : World) (_hx0 : ((x : Int) == 0) = false)
    (key : IntKind.u64.wrap (bits BinOp.and IntKind.u64 (x : Int) (IntKind.u64.wrap (-(x : Int))) * 285870213051353865) / 288230376151711744 = (idx : Int))
    (hi : idx < 64) (hk : k < 64) (hcell : w.cell? ⟨0, idx, none⟩ = some (.int .u8 k)) :
    Calls Tryd.prog 106 #[.int .u64 x] w fun e w' => e = .returned (.int .i64 k) ∧ w' = w := by
  go_enter Tryd.func106, Tryd.ntmps106
  go_wp2_with (simp only [key])
  go_ret
  exact ⟨rfl, rfl⟩
theorem zero (w : World) : Calls Tryd.prog 106 #[.int .u64 0] w fun e w' => e = .returned (.int .i64 64) ∧ w' = w := by
  go_enter Tryd.func106, Tryd.ntmps106
  go_wp2
  go_ret
  exact ⟨rfl, rfl⟩
theorem key (x a : Nat) (hx : x < 18446744073709551616) (hx0 : x ≠ 0) (hlow : x &&& (18446744073709551616 - x) = a) :
    IntKind.u64.wrap (bits BinOp.and IntKind.u64 (x : Int) (IntKind.u64.wrap (-(x : Int))) * 285870213051353865) / 288230376151711744 = ((a * 285870213051353865 % 18446744073709551616 / 288230376151711744 : Nat) : Int) := by
  have e1 : IntKind.u64.wrap (-(x : Int)) = ((18446744073709551616 - x : Nat) : Int) := by rw [IntKind.wrap_u64]; omega
  rw [e1, bits_and_u64_nat x _ hx (by omega), hlow, IntKind.wrap_u64]
  omega
theorem told (x : Nat) (hx : x < 18446744073709551616) (w : World) (hT : TabOk w) : Calls Tryd.prog 106 #[.int .u64 x] w fun e w' => e = .returned (.int .i64 (Lib.ctz 64 x)) ∧ w' = w := by
  by_cases hx0 : x = 0
  · subst hx0
    exact zero w
  · obtain ⟨hlow, hk⟩ := Lib.lowest_bit 64 x hx0 hx
    obtain ⟨hi, htab⟩ := Lib.deBruijn64_at _ hk
    have hcell := hT _ hi
    rw [htab] at hcell
    exact core x _ _ w (by simp; omega) (key x _ hx hx0 hlow) hi hk hcell
theorem bits_TrailingZeros64.calls (a r : Int) (w : World) (h : bits_TrailingZeros64.f a = some r) (hT0 : TabOk w) :
    Calls Tryd.prog 106 #[.int .u64 a] w fun e w' => e = .returned (.int .i64 r) ∧ Below w.heap.size w w' := by
  unfold bits_TrailingZeros64.f at h
  by_cases h0 : 0 ≤ a
  · rw [if_pos h0] at h
    by_cases h1 : a < 18446744073709551616
    · rw [if_pos h1] at h
      obtain rfl := Option.some.inj h
      have e : ((a.toNat : Nat) : Int) = a := by omega
      have := told a.toNat (by omega) w hT0
      rw [e] at this
      refine this.mono fun e w' hh => ⟨hh.1, ?_⟩
      rw [hh.2]
      exact Below.refl _ _
    · rw [if_neg h1] at h; cases h
  · rw [if_neg h0] at h; cases h
end Go.Proofs.YtedolmjealgeoaaDoor.Tz
