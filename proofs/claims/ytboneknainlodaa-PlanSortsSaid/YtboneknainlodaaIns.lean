/- plan.Insert as a call. Conditions: the list reads, its numbers are numbers of an int. -/
import Derived.Test.YtboneknainlodaaIdx
import Derived.Test.YtboneknainlodaaBs
import Derived.Deep.RegionHeld3
namespace Go.Proofs.Ytboneknainlodaa.Giv
open Go.RowKit Go.Maps Go.Proofs.Ytboneknainlodaa.PBase Go.Proofs.Ytboneknainlodaa.Cat Go.Proofs.YtboneknainlodaaW.PrintWords Go.Proofs.YtboneknainlodaaW.PrintLast Go.Proofs.YtboneknainlodaaW.PrintMore
theorem bgo_le (l : List S32) (d : S32) : ∀ (f i j : Nat), i ≤ j → bgo l d f i j ≤ j := by
  intro f
  induction f with
  | zero => intro i j h; exact h
  | succ f ih =>
    intro i j h
    unfold bgo
    split
    · split
      · exact ih _ _ (by omega)
      · exact Nat.le_trans (ih _ _ (by omega)) (by omega)
    · exact h
def bsp (l : List S32) (d : S32) : Nat := bgo l d l.length 0 l.length
set_option maxHeartbeats 4000000 in
set_option maxRecDepth 100000 in
theorem insert_walk (A0 : Option Addr) (c0 : Nat) (l : List S32) (d : S32) (w : World) (hr0 : Kd.C k32 w A0 l.length l) (hc0 : l.length ≤ c0) (hlen : l.length ≤ 1000000) (g : Bool) (hg : plan_Good.f l = some g) :
    Calls Try.prog 13 #[.slice A0 l.length c0, .agg #[.int .i64 d.f0, .int .u64 d.f1]] w fun e w' => ∃ v0_, e = .returned (.tuple #[v0_, .bool (g && !l.any (fun x => x.f0 == d.f0))]) ∧
      Kd.R k32 32 w' w.heap.size (fun _ => True) v0_ (if (g && !l.any (fun x => x.f0 == d.f0)) = true then l.take (bsp l d) ++ d :: l.drop (bsp l d) else []) ∧ Below w.heap.size w w' := by
  have HR0 := Aside0.mk hr0
  have HC0 := Aside0.mk hc0
  clear hr0
  have hbx : Below w.heap.size w (w.alloc (Obj.cells #[Value.int IntKind.i64 d.f0, Value.int IntKind.u64 d.f1] 32)) := below_alloc (Below.refl _ _) _
  have hb0 : (w.alloc (Obj.cells #[Value.int IntKind.i64 d.f0, Value.int IntKind.u64 d.f1] 32)).cell? ⟨w.heap.size, 0, none⟩ = some (.int .i64 d.f0) := by simp
  have hb1 : (w.alloc (Obj.cells #[Value.int IntKind.i64 d.f0, Value.int IntKind.u64 d.f1] 32)).cell? ⟨w.heap.size, 1, none⟩ = some (.int .u64 d.f1) := by simp
  have hlt0 : w.heap.size < (w.alloc (Obj.cells #[Value.int IntKind.i64 d.f0, Value.int IntKind.u64 d.f1] 32)).heap.size := by simp
  have HHG := Aside0.mk hg
  clear hg
  cases g with
  | false =>
    go_enter Try.func13, Try.ntmps13
    go_wp2_with (go_at_call 10; refine (plan_Good.calls A0 c0 l false _ (Kd.C_below HR0.out hbx) hc0 HHG.out (Nat.zero_le _)).mono ?_; rintro e w2 ⟨rfl, hb2⟩)
    go_ret2
    exact ⟨_, rfl, Kd.R_nil _ _ _ _ _, below_step hbx hb2⟩
  | true =>
    obtain ⟨q, hq⟩ : ∃ q, l.any (fun x => x.f0 == d.f0) = q := ⟨_, rfl⟩
    rw [hq]
    have HQ := Aside0.mk hq
    clear hq
    cases q with
    | true =>
      go_enter Try.func13, Try.ntmps13
      go_wp2_with (first
        | (go_at_call 10; refine (plan_Good.calls A0 c0 l true _ (Kd.C_below HR0.out hbx) hc0 HHG.out (Nat.zero_le _)).mono ?_; rintro e w2 ⟨rfl, hb2⟩; have hb0' := (hb2.cell (World.block_lt_of_cell? _ _ hb0)).trans hb0)
        | (go_at_call 24; refine (has_walk d.f0 _).mono ?_; rintro e w3 ⟨rfl, rfl⟩)
        | (go_at_call 23; refine (contains_calls A0 c0 l d.f0 w2.heap.size _ (Kd.C_below HR0.out (below_alloc (below_step hbx hb2) _)) (by simp) (by simp)).mono ?_; rw [HQ.out]; rintro e w4 ⟨rfl, hb4⟩))
      go_ret2
      exact ⟨_, rfl, Kd.R_nil _ _ _ _ _, below_step (below_alloc (below_step hbx hb2) _) hb4⟩
    | false =>
      go_enter Try.func13, Try.ntmps13
      go_wp2_with (first
        | (go_at_call 10; refine (plan_Good.calls A0 c0 l true _ (Kd.C_below HR0.out hbx) hc0 HHG.out (Nat.zero_le _)).mono ?_; rintro e w2 ⟨rfl, hb2⟩; have hb0' := (hb2.cell (World.block_lt_of_cell? _ _ hb0)).trans hb0)
        | (go_at_call 24; refine (has_walk d.f0 _).mono ?_; rintro e w3 ⟨rfl, rfl⟩)
        | (go_at_call 23; refine (contains_calls A0 c0 l d.f0 w2.heap.size _ (Kd.C_below HR0.out (below_alloc (below_step hbx hb2) _)) (by simp) (by simp)).mono ?_; rw [HQ.out]; rintro e w4 ⟨rfl, hb4⟩; have hb24 := below_step (below_alloc hb2 (Obj.cells #[.int .i64 d.f0] 3)) hb4; have hc0' := (hb24.cell (p := ⟨w.heap.size, 0, none⟩) hlt0).trans hb0; have hc1' := (hb24.cell (p := ⟨w.heap.size, 1, none⟩) hlt0).trans hb1)
        | (go_at_call 25; refine (bs_walk A0 c0 l d _ (Kd.C_below HR0.out (below_step hbx hb24)) hlen).mono ?_; rintro e w5 ⟨bb, rfl, hb5⟩; have hb25 := below_step hb24 hb5))
      clear hc0' hc1' hb0'
      have hc0' := (hb25.cell (p := ⟨w.heap.size, 0, none⟩) hlt0).trans hb0
      have hc1' := (hb25.cell (p := ⟨w.heap.size, 1, none⟩) hlt0).trans hb1
      obtain ⟨kk, hkk⟩ : ∃ kk : Int, ((bgo l d l.length 0 l.length : Nat) : Int) = kk := ⟨_, rfl⟩
      have hkb : bsp l d = kk.toNat := by unfold bsp; omega
      have hkl := bgo_le l d l.length 0 l.length (Nat.zero_le _)
      have hk0 : 0 ≤ kk := by omega
      have hki' : kk ≤ (l.length : Int) := by omega
      rw [hkk]
      clear hkk hkl
      have hkc : kk ≤ (c0 : Int) := by omega
      have q1 := cut_cap A0 l.length c0 kk hk0 hkc
      obtain ⟨i0, hi0, _, hsz0, _⟩ := info_parts info32
      have q2 := cut_from (P := Try.prog) 22 32 .i64 Try.underlying22 hi0 2 hsz0 A0 l.length c0 kk hk0 hki'
      obtain ⟨A4, hA4⟩ : ∃ A4, A4 = (if c0 = kk.toNat then A0 else A0.map (·.add (kk.toNat * 2))) := ⟨_, rfl⟩
      rw [← hA4] at q2
      have hw1 := below_step hbx hb25
      have HCW := Kd.C_below HR0.out hw1
      have HCD : Aside0 (Kd.C k32 w5 A4 (l.length - kk.toNat) (l.drop kk.toNat)) := ⟨by rw [hA4]; have h := Kd.C_drop (m := kk.toNat) (c := c0) HCW (by omega) hc0; rw [List.length_drop] at h; exact h⟩
      clear hA4
      have HCT : Aside0 (Kd.C k32 w5 A0 kk.toNat (l.take kk.toNat)) := ⟨by have h := Kd.C_take (m := kk.toNat) HCW (by omega); rw [List.length_take, Nat.min_eq_left (by omega)] at h; exact h⟩
      clear hsz0 hi0 HCW
      have hbW : Below w5.heap.size w5 ((w5.alloc (Obj.cells #[Value.int IntKind.i64 d.f0, Value.int IntKind.u64 d.f1] 32)).drew) := below_drew1 (below_alloc (Below.refl _ _) _)
      have hl5 : w.heap.size < w5.heap.size := World.block_lt_of_cell? w5 _ hc0'
      go_region_held3 (fun w' => w'.cell? ⟨w.heap.size, 0, none⟩ = some (.int .i64 d.f0) ∧ w'.cell? ⟨w.heap.size, 1, none⟩ = some (.int .u64 d.f1))
        (first | go_keep | exact ⟨(hby.cell (p := ⟨w.heap.size, 0, none⟩) hl5).trans hc0', (hby.cell (p := ⟨w.heap.size, 1, none⟩) hl5).trans hc1'⟩ | exact ⟨(hbx'.cell (p := ⟨w.heap.size, 0, none⟩) hl5).trans hc0', (hbx'.cell (p := ⟨w.heap.size, 1, none⟩) hl5).trans hc1'⟩)
        (first
          | (refine step_full (K := _) (by rfl) (.tmp 27) (.tmp 29) (by rfl) A0 kk.toNat (l.take kk.toNat) (.slice (some ⟨w5.heap.size, 0, none⟩) 1 1) [d] (by rfl) (by rfl) (Kd.C_drew (Kd.C_alloc HCT.out _)) (Kd.R_drew (R_lit1 w5 d)) (by simp) (by simp; omega) ?_; intro v1 w6 HV1 hb6; have hbx' := below_step hbW hb6)
          | (refine step_rows (K := _) _ (by rfl) (.tmp 30) (.tmp 33) (by rfl) v1 (l.take kk.toNat ++ [d]) A4 (l.length - kk.toNat) (c0 - kk.toNat) (l.drop kk.toNat) (by rfl) (by rfl) HV1 (Kd.C_below HCD.out hbx') hb6.size (by simp; omega) ?_; intro v2 w7 HV2 hb7; have hby := hbx'.trans (hb7.mono hbW.size)))
      go_wp2
      go_ret2
      exact ⟨_, rfl, by have h := Kd.R_lower HV2 (Nat.le_trans hw1.size hbW.size); rw [List.append_assoc] at h; exact h, below_step hw1 hby⟩
/-- What Insert computes. -/
def insf (l : List S32) (d : S32) : List S32 := l.take (bsp l d) ++ d :: l.drop (bsp l d)
def plan_Insert.f (l : List S32) (d0 d1 : Int) : Option (List S32 × Bool) := if l.length ≤ 1000000 then (plan_Good.f l).map fun g => if (g && !l.any (fun x => x.f0 == d0)) = true then (insf l ⟨d0, d1⟩, true) else ([], false) else none
set_option linter.unusedVariables false
theorem plan_Insert.calls (A0 : Option Addr) (c0 : Nat) (l0 : List S32) (a1_0 a1_1 : Int) (r1 : List S32) (r2 : Bool) (w : World) (hr0 : Kd.C k32 w A0 l0.length l0) (hc0 : l0.length ≤ c0) (h : plan_Insert.f l0 a1_0 a1_1 = some (r1, r2)) (hT0 : TabOk w) :
    Calls Try.prog 13 #[.slice A0 l0.length c0, .agg #[.int .i64 a1_0, .int .u64 a1_1]] w fun e w' => ∃ v0_, e = .returned (.tuple #[v0_, .bool r2]) ∧ Kd.R k32 32 w' w.heap.size (fun _ => True) v0_ r1 ∧ Below w.heap.size w w' := by
  unfold plan_Insert.f at h
  by_cases h1 : l0.length ≤ 1000000
  · rw [if_pos h1] at h
    obtain ⟨g, hg, h⟩ := Option.map_eq_some_iff.1 h
    have hh := insert_walk A0 c0 l0 ⟨a1_0, a1_1⟩ w hr0 hc0 h1 g hg
    refine hh.mono ?_
    rintro e w' ⟨v, he, hR, hb⟩
    refine ⟨v, ?_, ?_, hb⟩
    · rw [he]
      split at h
      · rename_i hc; obtain ⟨-, rfl⟩ := Prod.mk.inj h; rw [hc]
      · rename_i hc; obtain ⟨-, rfl⟩ := Prod.mk.inj h; rw [Bool.eq_false_iff.2 hc]
    · split at h
      · rename_i hc; obtain ⟨rfl, -⟩ := Prod.mk.inj h; rw [if_pos hc] at hR; exact hR
      · rename_i hc; obtain ⟨rfl, -⟩ := Prod.mk.inj h; rw [if_neg hc] at hR; exact hR
  · rw [if_neg h1] at h; cases h
end Go.Proofs.Ytboneknainlodaa.Giv
