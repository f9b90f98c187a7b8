/- slices.Grow of nil, slices.Concat of two lists, plan.Cancel. Conditions: the lists read. -/
import Derived.Test.YtboneknainlodaaIdx
import Derived.Deep.RegionHeld3
import Derived.Lib.AppendZeros
namespace Go.Proofs.Ytboneknainlodaa.Giv
open Go.RowKit Go.Maps Go.Proofs.Ytboneknainlodaa.PBase Go.Proofs.Ytboneknainlodaa.Cat Go.Proofs.YtboneknainlodaaW.PrintWords Go.Proofs.YtboneknainlodaaW.PrintLast Go.Proofs.YtboneknainlodaaW.PrintMore
set_option maxHeartbeats 4000000 in
set_option maxRecDepth 100000 in
theorem grow_walk (n : Nat) (w : World) (hn : n ≤ 2000000) :
    Calls Try.prog 35 #[.slice none 0 0, .int .i64 n] w fun e w' => ∃ v0_, e = .returned v0_ ∧ Kd.R k32 32 w' w.heap.size (fun _ => True) v0_ [] ∧ Below w.heap.size w w' := by
  obtain ⟨v1, w1, hrun, h1, hg, _⟩ := Kd.R_zeros_run (P := Try.prog) k32 (W := w) w.heap.size 22 3 22 32 (.agg #[.int .i64 0, .int .u64 0]) 16 Try.underlying22 Try.underlying3 info32 rfl (by decide) (by decide) (.slice none 0 0) [] z32 (ok := fun _ => True) (k32_mkM _ _ _ z32) (fun _ _ => trivial) (Kd.R_nil _ _ _ _ _) .i64 (n : Int) (by omega) (by simp; omega) (Nat.le_refl _)
  have hb : Below w.heap.size w w1 := ⟨hg.os, hg.tape, hg.output, hg.size, fun k hk => hg.block k hk (by simp [Value.ownBlock])⟩
  by_cases h0 : 0 < n
  · rw [List.nil_append, Int.toNat_natCast] at h1
    obtain ⟨g, cap, rfl, hgb, _, _⟩ := Kd.R_form h1 (by simp; exact h0)
    rw [List.length_replicate] at h1 hrun
    have hR := Kd.R_take (m := 0) h1 (Nat.zero_le _)
    have HR := Aside0.mk hR
    clear hR h1 hg
    have e1 : decide (0 < (n : Int)) = true := decide_eq_true (by omega)
    have e2 : IntKind.i64.wrap (n : Int) = n := by rw [i64_w]; unfold wrap64; omega
    have e3 : decide ((n : Int) < 0) = false := decide_eq_false (by omega)
    obtain ⟨nn, hnn⟩ : ∃ nn : Int, (n : Int) = nn := ⟨_, rfl⟩
    rw [hnn] at hrun e1 e2 e3 ⊢
    clear hnn
    go_enter Try.func35, Try.ntmps35
    go_wp2_with (at_builtin; refine Lib.wpList_append_run _ (by rfl) (.tmp 20) (.tmp 21) 22 3 (by rfl) (.slice none 0 0) (.int .i64 nn) (by rfl) (by rfl) (.slice (some ⟨g, 0, none⟩) n cap) w1 hrun ?_)
    go_ret
    exact ⟨_, rfl, HR.out, hb⟩
  · have hn0 : n = 0 := by omega
    subst hn0
    go_enter Try.func35, Try.ntmps35
    go_wp2
    go_ret
    exact ⟨_, rfl, Kd.R_nil _ _ _ _ _, Below.refl _ _⟩
set_option maxHeartbeats 4000000 in
set_option maxRecDepth 100000 in
theorem concat_walk (B : Nat) (A1 A2 : Option Addr) (c1 c2 : Nat) (xs ys : List S32) (w : World) (h1 : w.cell? ⟨B, 0, none⟩ = some (.slice A1 xs.length c1)) (h2 : w.cell? ⟨B, 1, none⟩ = some (.slice A2 ys.length c2)) (hx : Kd.C k32 w A1 xs.length xs) (hy : Kd.C k32 w A2 ys.length ys) (hn : xs.length + ys.length ≤ 2000000) :
    Calls Try.prog 27 #[.slice (some ⟨B, 0, none⟩) 2 2] w fun e w' => ∃ v0_, e = .returned v0_ ∧ Kd.R k32 32 w' w.heap.size (fun _ => True) v0_ (xs ++ ys) ∧ Below w.heap.size w w' := by
  have HX := Aside0.mk hx
  have HY := Aside0.mk hy
  clear hx hy
  go_enter Try.func27, Try.ntmps27
  obtain ⟨n, hxn⟩ : ∃ n : Nat, xs.length = n := ⟨_, rfl⟩
  obtain ⟨m, hym⟩ : ∃ m : Nat, ys.length = m := ⟨_, rfl⟩
  have l1 := World.block_lt_of_cell? w _ h1
  rw [hxn] at h1 HX
  rw [hym] at h2 HY
  have HXN := Aside0.mk hxn
  have HYM := Aside0.mk hym
  rw [hxn, hym] at hn
  clear hxn hym
  obtain ⟨s, hs⟩ : ∃ s : Nat, n + m = s := ⟨_, rfl⟩
  have HSS := Aside0.mk hs
  have hsl : s ≤ 2000000 := by omega
  clear hs
  go_wp2
  go_loopg [3, 11] 2 (fun gg v3 v11 wr => ∃ i : Nat, i ≤ 2 ∧ 2 - i ≤ gg ∧ v11 = .int .i64 i ∧ v3 = .int .i64 (if i = 0 then 0 else if i = 1 then (n : Int) else (s : Int)) ∧ wr = w)
  case atStart => exact ⟨0, by omega, by omega, rfl, rfl, rfl⟩
  case round =>
    obtain ⟨i, hi, hig, rfl, rfl, rfl⟩ := hrel
    match i, hi with
    | 0, _ =>
      go_wp2
      go_roundg 1
      case measure => omega
      case rel => exact ⟨1, by omega, by omega, rfl, by simp, rfl⟩
    | 1, _ =>
      have e1 : IntKind.i64.wrap ((n : Int) + m) = (s : Int) := by have := HSS.out; rw [i64_w]; unfold wrap64; omega
      go_wp2
      go_roundg 0
      case measure => omega
      case rel => exact ⟨2, by omega, by omega, rfl, by simp, rfl⟩
    | 2, _ =>
      go_wp2_with (go_at_call 35; refine (grow_walk s _ hsl).mono ?_; rintro e w2 ⟨v, rfl, HV, hb2⟩; have HV := Aside0.mk HV)
      obtain ⟨W0, hW0⟩ : ∃ W0, W0 = wr := ⟨_, rfl⟩
      subst hW0
      go_loopg [6, 27] 2 (fun gg v6 v27 wk => ∃ j : Nat, j ≤ 2 ∧ 2 - j ≤ gg ∧ v27 = .int .i64 j ∧ Aside0 (Kd.R k32 32 wk W0.heap.size (fun _ => True) v6 (if j = 0 then [] else if j = 1 then xs else xs ++ ys)) ∧ Below W0.heap.size W0 wk)
      case atStart => exact ⟨0, by omega, by omega, rfl, HV, hb2⟩
      case round =>
        obtain ⟨j, hj, hjg, rfl, HV2, hb3⟩ := hrel
        have g1 := (hb3.cell (p := ⟨B, 0, none⟩) l1).trans h1
        have g2 := (hb3.cell (p := ⟨B, 1, none⟩) l1).trans h2
        match j, hj with
        | 0, _ =>
          obtain ⟨v1, w1, hrun, k1, k2⟩ := run_rows (W := wr) 22 A1 n c1 xs HV2.out (Kd.C_below HX.out hb3) hb3.size (by simp; omega)
          go_wp2_with (at_builtin; refine Lib.wpList_append_run _ (by rfl) (.tmp 31) (.tmp 32) 22 22 (by rfl) _ (.slice A1 n c1) (by rfl) (by rfl) v1 w1 hrun ?_)
          go_roundg 1
          case measure => omega
          case rel => exact ⟨1, by omega, by omega, rfl, ⟨k1⟩, hb3.trans k2⟩
        | 1, _ =>
          obtain ⟨v1, w1, hrun, k1, k2⟩ := run_rows (W := wr) 22 A2 m c2 ys HV2.out (Kd.C_below HY.out hb3) hb3.size (by simp [HXN.out]; omega)
          go_wp2_with (at_builtin; refine Lib.wpList_append_run _ (by rfl) (.tmp 31) (.tmp 32) 22 22 (by rfl) _ (.slice A2 m c2) (by rfl) (by rfl) v1 w1 hrun ?_)
          go_roundg 0
          case measure => omega
          case rel => exact ⟨2, by omega, by omega, rfl, ⟨k1⟩, hb3.trans k2⟩
        | 2, _ =>
          go_wp2
          go_ret
          exact ⟨_, rfl, HV2.out, hb3⟩
end Go.Proofs.Ytboneknainlodaa.Giv
