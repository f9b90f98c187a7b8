/- tick.Sum, bits.Len64 and bits.Mul64 as calls: the sum, where it fits (bits.Add64 is the model's own entry); the number of bits; the product's halves (both turned from the shelf's proofs of the same texts). No premise: the fact on a table is empty here. -/
import Derived.Test.YtfkknipkfcmiaaaProg
import Derived.WalkKit
import Derived.Below
import Derived.KernelRfl
import Derived.Laws.Externs
import Derived.Lib.Strings
import Derived.Lib.Slices
import Derived.Lib.Small
import Derived.Lib.Walk
import Derived.Lib.BitFns
import Derived.Deep.Light
import Derived.ChangeKeysEq
import Derived.Laws.StructEq
import Derived.Lib.Mul64
import Derived.Laws.Bits64b
namespace Go.Proofs.Ytfkknipkfcmiaaa.Add
open Go.RowKit
/-- No table is asked. -/
def TabOk (w : World) : Prop := 0 ≤ w.heap.size
theorem TabOk.below {w w' : World} (_ : TabOk w) (_ : Below w.heap.size w w') : TabOk w' := Nat.zero_le _
def tick_Sum.f (a b : Int) : Option (Int × Bool) := if 0 ≤ a then if 0 ≤ b then some (if (a + b) / 18446744073709551616 = 0 then ((a + b) % 18446744073709551616, true) else (0, false)) else none else none
theorem run_add (x y : Int) (hx : 0 ≤ x) (hy : 0 ≤ y) (w : World) :
    (callFunc 22 #[.int .u64 x, .int .u64 y, .int .u64 0]).run Try.prog w = .ok (.value (.tuple #[.int .u64 ((x + y + 0) % 18446744073709551616), .int .u64 ((x + y + 0) / 18446744073709551616)])) w := by
  rw [run_callFunc_extern Try.func22 (by kernel_rfl) (by kernel_rfl) (by kernel_rfl) (e := add64Entry) (by kernel_rfl), run_add64 x y 0 hx hy (by omega) (by omega)]
  rfl
set_option linter.unusedVariables false
theorem tick_Sum.calls (a b r1 : Int) (r2 : Bool) (w : World) (h : tick_Sum.f a b = some (r1, r2)) (hT0 : TabOk w) :
    Calls Try.prog 11 #[.int .u64 a, .int .u64 b] w fun e w' => e = .returned (.tuple #[.int .u64 r1, .bool r2]) ∧ Below w.heap.size w w' := by
  unfold tick_Sum.f at h
  by_cases h0 : 0 ≤ a
  · rw [if_pos h0] at h
    by_cases h1 : 0 ≤ b
    · rw [if_pos h1] at h
      have h := Option.some.inj h
      by_cases hc : (a + b) / 18446744073709551616 = 0
      · rw [if_pos hc] at h
        injection h with e1 e2
        subst e1 e2
        have hc' : (((a + b + 0) / 18446744073709551616 : Int) == 0) = true := by rw [Int.add_zero, hc]; rfl
        go_enter Try.func11, Try.ntmps11
        go_wp2_with (simp only [run_add a b h0 h1])
        go_ret2
        exact ⟨rfl, Below.refl _ _⟩
      · rw [if_neg hc] at h
        injection h with e1 e2
        subst e1 e2
        have hc' : (((a + b + 0) / 18446744073709551616 : Int) == 0) = false := by rw [Int.add_zero, beq_eq_false_iff_ne]; exact hc
        go_enter Try.func11, Try.ntmps11
        go_wp2_with (simp only [run_add a b h0 h1])
        go_ret2
        exact ⟨rfl, Below.refl _ _⟩
    · rw [if_neg h1] at h; cases h
  · rw [if_neg h0] at h; cases h
set_option maxRecDepth 100000 in
theorem len8tab_size : (Lib.len8tab.size : Int) = 256 := by
  have : Lib.len8tab.size = 256 := by decide
  omega
theorem wrap_add (k a b : Nat) (hk : k ≤ 56) (ha : a ≤ 8) (hb : b = k + a) : wrap64 ((k : Int) + wrap64 (a : Int)) = (b : Int) := by
  unfold wrap64
  omega
theorem wrap_wrap (a : Nat) (ha : a ≤ 8) : wrap64 (wrap64 (a : Int)) = (a : Int) := by
  unfold wrap64
  omega
theorem wrap_one (a : Nat) (ha : a ≤ 8) : wrap64 (a : Int) = (a : Int) := by
  unfold wrap64
  omega
theorem len8_get (y : Int) (h : y.toNat < Lib.len8tab.size) : ((Lib.len8tab[y.toNat]'h).toNat : Int) = Lib.len8 y := by
  unfold Lib.len8
  rw [getElem?_pos Lib.len8tab y.toNat h]
  rfl

set_option maxHeartbeats 32000000 in
set_option maxRecDepth 1000000 in
theorem len (x : Int) (w : World) (h0 : 0 ≤ x) (h1 : x ≤ 18446744073709551615) :
    Calls Try.prog 21 #[.int .u64 x] w fun e w' => e = .returned (.int .i64 (Lib.bitLen x.toNat)) ∧ w' = w := by
  go_enter Try.func21, Try.ntmps21
  go_wp2
  all_goals first
    | (go_ret; refine ⟨congrArg Ending.returned (congrArg (Value.int IntKind.i64) ?_), rfl⟩; go_light)
    | (exfalso
       go_light
       have hs := len8tab_size
       omega)
  all_goals first
    | (rw [len8_get (x / 4294967296 / 65536 / 256) _, Lib.len8_of (x / 4294967296 / 65536 / 256) (by omega) (by omega)]
       have e : (x / 4294967296 / 65536 / 256).toNat = x.toNat / 72057594037927936 := by omega
       have l := Lib.bitLen_le8' (x / 4294967296 / 65536 / 256) (by omega) (by omega)
       have s := Lib.bitLen_shift56 x.toNat (by omega) (by omega)
       rw [e] at l ⊢
       exact wrap_add 56 _ _ (by decide) l s)
    | (rw [len8_get (x / 4294967296 / 65536) _, Lib.len8_of (x / 4294967296 / 65536) (by omega) (by omega)]
       have e : (x / 4294967296 / 65536).toNat = x.toNat / 281474976710656 := by omega
       have l := Lib.bitLen_le8' (x / 4294967296 / 65536) (by omega) (by omega)
       have s := Lib.bitLen_shift48 x.toNat (by omega) (by omega)
       rw [e] at l ⊢
       exact wrap_add 48 _ _ (by decide) l s)
    | (rw [len8_get (x / 4294967296 / 256) _, Lib.len8_of (x / 4294967296 / 256) (by omega) (by omega)]
       have e : (x / 4294967296 / 256).toNat = x.toNat / 1099511627776 := by omega
       have l := Lib.bitLen_le8' (x / 4294967296 / 256) (by omega) (by omega)
       have s := Lib.bitLen_shift40 x.toNat (by omega) (by omega)
       rw [e] at l ⊢
       exact wrap_add 40 _ _ (by decide) l s)
    | (rw [len8_get (x / 4294967296) _, Lib.len8_of (x / 4294967296) (by omega) (by omega)]
       have e : (x / 4294967296).toNat = x.toNat / 4294967296 := by omega
       have l := Lib.bitLen_le8' (x / 4294967296) (by omega) (by omega)
       have s := Lib.bitLen_shift32 x.toNat (by omega) (by omega)
       rw [e] at l ⊢
       exact wrap_add 32 _ _ (by decide) l s)
    | (rw [len8_get (x / 65536 / 256) _, Lib.len8_of (x / 65536 / 256) (by omega) (by omega)]
       have e : (x / 65536 / 256).toNat = x.toNat / 16777216 := by omega
       have l := Lib.bitLen_le8' (x / 65536 / 256) (by omega) (by omega)
       have s := Lib.bitLen_shift24 x.toNat (by omega) (by omega)
       rw [e] at l ⊢
       exact wrap_add 24 _ _ (by decide) l s)
    | (rw [len8_get (x / 65536) _, Lib.len8_of (x / 65536) (by omega) (by omega)]
       have e : (x / 65536).toNat = x.toNat / 65536 := by omega
       have l := Lib.bitLen_le8' (x / 65536) (by omega) (by omega)
       have s := Lib.bitLen_shift16 x.toNat (by omega) (by omega)
       rw [e] at l ⊢
       exact wrap_add 16 _ _ (by decide) l s)
    | (rw [len8_get (x / 256) _, Lib.len8_of (x / 256) (by omega) (by omega)]
       have e : (x / 256).toNat = x.toNat / 256 := by omega
       have l := Lib.bitLen_le8' (x / 256) (by omega) (by omega)
       have s := Lib.bitLen_shift8 x.toNat (by omega) (by omega)
       rw [e] at l ⊢
       exact wrap_add 8 _ _ (by decide) l s)
    | (rw [len8_get (x) _, Lib.len8_of (x) (by omega) (by omega)]
       have e : (x).toNat = x.toNat := by omega
       have l := Lib.bitLen_le8' (x) (by omega) (by omega)
       rw [e] at l ⊢
       first | exact wrap_wrap _ l | exact wrap_add 0 _ _ (by decide) l (by omega) | exact wrap_one _ l)
def bits_Len64.f (a : Int) : Option Int := if 0 ≤ a then if a ≤ 18446744073709551615 then some ((Lib.bitLen a.toNat : Nat) : Int) else none else none
set_option linter.unusedVariables false
theorem bits_Len64.calls (a r : Int) (w : World) (h : bits_Len64.f a = some r) (hT0 : TabOk w) :
    Calls Try.prog 21 #[.int .u64 a] w fun e w' => e = .returned (.int .i64 r) ∧ Below w.heap.size w w' := by
  unfold bits_Len64.f at h
  by_cases h0 : 0 ≤ a
  · rw [if_pos h0] at h
    by_cases h1 : a ≤ 18446744073709551615
    · rw [if_pos h1] at h
      obtain rfl := Option.some.inj h
      refine (len a w h0 h1).mono fun e w' hh => ⟨hh.1, ?_⟩
      rw [hh.2]
      exact Below.refl _ _
    · rw [if_neg h1] at h; cases h
  · rw [if_neg h0] at h; cases h
/-! ### The product -/
theorem maskN (a : Nat) (ha : a < 18446744073709551616) : bits .and .u64 (a : Int) 4294967295 = ((a % 4294967296 : Nat) : Int) := by
  have h := bits_and_u64_nat a 4294967295 ha (by omega)
  have e : a &&& 4294967295 = a % 4294967296 := Nat.and_two_pow_sub_one_eq_mod a 32
  rw [e] at h
  exact h
theorem divN (a : Nat) : (a : Int) / 4294967296 = ((a / 4294967296 : Nat) : Int) := by omega
theorem mulN (a b : Nat) : (a : Int) * (b : Int) = ((a * b : Nat) : Int) := (Int.natCast_mul a b).symm
theorem addN (a b : Nat) : (a : Int) + (b : Int) = ((a + b : Nat) : Int) := (Int.natCast_add a b).symm
theorem wrapN (a : Nat) (ha : a < 18446744073709551616) : IntKind.u64.wrap (a : Int) = (a : Int) := by rw [IntKind.wrap_u64]; omega
theorem wrapM (a : Nat) : IntKind.u64.wrap (a : Int) = ((a % 18446744073709551616 : Nat) : Int) := by rw [IntKind.wrap_u64]; omega
set_option maxHeartbeats 1000000 in
theorem mul (x y : Nat) (hx : x < 18446744073709551616) (hy : y < 18446744073709551616) (w : World) :
    Calls Try.prog 23 #[.int .u64 x, .int .u64 y] w fun e w' => e = .returned (.tuple #[.int .u64 ((x * y / 18446744073709551616 : Nat) : Int), .int .u64 ((x * y % 18446744073709551616 : Nat) : Int)]) ∧ w' = w := by
  obtain ⟨bd, bt, bw, hhi⟩ := Lib.mul64_hi x y hx hy
  have ba := Lib.half_mul_le (a := x / 4294967296) (b := y / 4294967296) (by omega) (by omega)
  have bb := Lib.half_mul_le (a := x / 4294967296) (b := y % 4294967296) (by omega) (by omega)
  have bc := Lib.half_mul_le (a := x % 4294967296) (b := y / 4294967296) (by omega) (by omega)
  have ba' : x / 4294967296 * (y / 4294967296) < 18446744073709551616 := by omega
  have bb' : x / 4294967296 * (y % 4294967296) < 18446744073709551616 := by omega
  have bc' : x % 4294967296 * (y / 4294967296) < 18446744073709551616 := by omega
  have bh1 : x / 4294967296 * (y / 4294967296) + (x / 4294967296 * (y % 4294967296) + x % 4294967296 * (y % 4294967296) / 4294967296) / 4294967296 < 18446744073709551616 := by omega
  have bh : x / 4294967296 * (y / 4294967296) + (x / 4294967296 * (y % 4294967296) + x % 4294967296 * (y % 4294967296) / 4294967296) / 4294967296 + ((x / 4294967296 * (y % 4294967296) + x % 4294967296 * (y % 4294967296) / 4294967296) % 4294967296 + x % 4294967296 * (y / 4294967296)) / 4294967296 < 18446744073709551616 := by omega
  go_enter Try.func23, Try.ntmps23
  go_wp2
  simp only [maskN x hx, maskN y hy, divN, mulN, addN, wrapN _ bd, wrapN _ bb', wrapN _ bt, maskN _ bt, wrapN _ bc', wrapN _ bw, wrapN _ ba', wrapN _ bh1, wrapN _ bh, wrapM (x * y)]
  rw [hhi]
  go_ret2
  exact ⟨rfl, rfl⟩
def bits_Mul64.f (a b : Int) : Option (Int × Int) := if 0 ≤ a ∧ a < 18446744073709551616 then if 0 ≤ b ∧ b < 18446744073709551616 then some (((a.toNat * b.toNat / 18446744073709551616 : Nat) : Int), ((a.toNat * b.toNat % 18446744073709551616 : Nat) : Int)) else none else none
theorem bits_Mul64.calls (a b r1 r2 : Int) (w : World) (h : bits_Mul64.f a b = some (r1, r2)) (hT0 : TabOk w) :
    Calls Try.prog 23 #[.int .u64 a, .int .u64 b] w fun e w' => e = .returned (.tuple #[.int .u64 r1, .int .u64 r2]) ∧ Below w.heap.size w w' := by
  unfold bits_Mul64.f at h
  by_cases h0 : 0 ≤ a ∧ a < 18446744073709551616
  · rw [if_pos h0] at h
    by_cases h1 : 0 ≤ b ∧ b < 18446744073709551616
    · rw [if_pos h1] at h
      have h := Option.some.inj h
      injection h with e1 e2
      subst e1 e2
      have := mul a.toNat b.toNat (by omega) (by omega) w
      rw [show ((a.toNat : Nat) : Int) = a by omega, show ((b.toNat : Nat) : Int) = b by omega] at this
      refine this.mono fun e w' hh => ⟨hh.1, ?_⟩
      rw [hh.2]
      exact Below.refl _ _
    · rw [if_neg h1] at h; cases h
  · rw [if_neg h0] at h; cases h
/-! ### Two arrays of eleven numbers -/
theorem eqi_cons {P : Program} {d c : Nat} {e : TypeId} {xs ys : Array Value} {i : Nat} {is : List Nat} {a b : Value} {r s : Bool} {w : World} (ha : (part e xs (i * c)).run P w = .ok a w) (hb : (part e ys (i * c)).run P w = .ok b w) (he : (Op.equalIn d e a b).run P w = .ok r w) (hr : (Op.eqItems d e c xs ys is).run P w = .ok s w) :
    (Op.eqItems d e c xs ys (i :: is)).run P w = .ok (r && s) w := by
  rw [Op.eqItems]
  simp only [Sem.run_bind, ha, hb, he, Result.andThen_ok]
  cases r
  · simp
  · simpa using hr
theorem eqA24 (d : Nat) (w : World) (x0 x1 x2 x3 x4 x5 x6 x7 x8 x9 x10 y0 y1 y2 y3 y4 y5 y6 y7 y8 y9 y10 : Int) :
    (Op.equalIn (d + 2) 24 (.agg #[.int .i64 x0, .int .i64 x1, .int .i64 x2, .int .i64 x3, .int .i64 x4, .int .i64 x5, .int .i64 x6, .int .i64 x7, .int .i64 x8, .int .i64 x9, .int .i64 x10]) (.agg #[.int .i64 y0, .int .i64 y1, .int .i64 y2, .int .i64 y3, .int .i64 y4, .int .i64 y5, .int .i64 y6, .int .i64 y7, .int .i64 y8, .int .i64 y9, .int .i64 y10])).run Try.prog w = .ok (x0 == y0 && (x1 == y1 && (x2 == y2 && (x3 == y3 && (x4 == y4 && (x5 == y5 && (x6 == y6 && (x7 == y7 && (x8 == y8 && (x9 == y9 && (x10 == y10))))))))))) w := by
  rw [show d + 2 = (d + 1) + 1 from rfl, run_equalIn_array w (d + 1) _ _ Try.underlying24 (i := _) rfl, show Try.prog.cellsOf 3 = 1 by kernel_rfl, show List.range 11 = [0, 1, 2, 3, 4, 5, 6, 7, 8, 9, 10] from rfl]
  rw [← Bool.and_true (x10 == y10)]
  refine eqi_cons (a := .int .i64 x0) (b := .int .i64 y0) (by go_simp) (by go_simp) (by go_simp) ?_
  refine eqi_cons (a := .int .i64 x1) (b := .int .i64 y1) (by go_simp) (by go_simp) (by go_simp) ?_
  refine eqi_cons (a := .int .i64 x2) (b := .int .i64 y2) (by go_simp) (by go_simp) (by go_simp) ?_
  refine eqi_cons (a := .int .i64 x3) (b := .int .i64 y3) (by go_simp) (by go_simp) (by go_simp) ?_
  refine eqi_cons (a := .int .i64 x4) (b := .int .i64 y4) (by go_simp) (by go_simp) (by go_simp) ?_
  refine eqi_cons (a := .int .i64 x5) (b := .int .i64 y5) (by go_simp) (by go_simp) (by go_simp) ?_
  refine eqi_cons (a := .int .i64 x6) (b := .int .i64 y6) (by go_simp) (by go_simp) (by go_simp) ?_
  refine eqi_cons (a := .int .i64 x7) (b := .int .i64 y7) (by go_simp) (by go_simp) (by go_simp) ?_
  refine eqi_cons (a := .int .i64 x8) (b := .int .i64 y8) (by go_simp) (by go_simp) (by go_simp) ?_
  refine eqi_cons (a := .int .i64 x9) (b := .int .i64 y9) (by go_simp) (by go_simp) (by go_simp) ?_
  refine eqi_cons (a := .int .i64 x10) (b := .int .i64 y10) (by go_simp) (by go_simp) (by go_simp) ?_
  rfl
attribute [go_sem high] eqA24
end Go.Proofs.Ytfkknipkfcmiaaa.Add
