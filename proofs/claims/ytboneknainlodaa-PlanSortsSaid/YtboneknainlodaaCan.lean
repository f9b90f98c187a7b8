/- plan.Cancel as a call. Conditions: the list reads, its numbers are numbers of an int. -/
import Derived.Test.YtboneknainlodaaCnc
namespace Go.Proofs.Ytboneknainlodaa.Giv
open Go.RowKit Go.Maps Go.Proofs.Ytboneknainlodaa.PBase Go.Proofs.Ytboneknainlodaa.Cat Go.Proofs.YtboneknainlodaaW.PrintWords Go.Proofs.YtboneknainlodaaW.PrintLast Go.Proofs.YtboneknainlodaaW.PrintMore
/-- The first place of a number; -1. -/
def idx (l : List S32) (id : Int) : Int := Lib.idxBy (fun _ y => y.f0 == id) l default
theorem idxFrom_range (eq : S32 → S32 → Bool) (x : S32) : ∀ (l : List S32) (i : Nat), Lib.idxByFrom eq x l i = -1 ∨ ((i : Int) ≤ Lib.idxByFrom eq x l i ∧ Lib.idxByFrom eq x l i < ((i + l.length : Nat) : Int)) := by
  intro l
  induction l with
  | nil => intro i; exact .inl rfl
  | cons y l ih =>
    intro i
    unfold Lib.idxByFrom
    split
    · right; simp; omega
    · rcases ih (i + 1) with h | h
      · exact .inl h
      · right; simp at h ⊢; omega
theorem idx_range (l : List S32) (id : Int) : idx l id = -1 ∨ (0 ≤ idx l id ∧ idx l id < l.length) := by
  have h := idxFrom_range (fun _ y => y.f0 == id) default l 0
  unfold idx Lib.idxBy
  simpa using h
theorem concat_calls (B : Nat) (A1 A2 : Option Addr) (n m c1 c2 : Nat) (xs ys : List S32) (w : World) (hxn : xs.length = n) (hym : ys.length = m) (h1 : w.cell? ⟨B, 0, none⟩ = some (.slice A1 n c1)) (h2 : w.cell? ⟨B, 1, none⟩ = some (.slice A2 m c2)) (hx : Kd.C k32 w A1 n xs) (hy : Kd.C k32 w A2 m ys) (hn : n + m ≤ 2000000) :
    Calls Try.prog 27 #[.slice (some ⟨B, 0, none⟩) 2 2] w fun e w' => ∃ v0_, e = .returned v0_ ∧ Kd.R k32 32 w' w.heap.size (fun _ => True) v0_ (xs ++ ys) ∧ Below w.heap.size w w' := by
  subst hxn; subst hym
  exact concat_walk B A1 A2 c1 c2 xs ys w h1 h2 hx hy hn
set_option maxHeartbeats 4000000 in
set_option maxRecDepth 100000 in
theorem cancel_walk (A0 : Option Addr) (c0 : Nat) (l : List S32) (id : Int) (w : World) (hr0 : Kd.C k32 w A0 l.length l) (hc0 : l.length ≤ c0) (hlen : l.length ≤ 1000000) (g : Bool) (hg : plan_Good.f l = some g) :
    Calls Try.prog 14 #[.slice A0 l.length c0, .int .i64 id] w fun e w' => ∃ v0_, e = .returned (.tuple #[v0_, .bool (g && decide (0 ≤ idx l id))]) ∧
      Kd.R k32 32 w' w.heap.size (fun _ => True) v0_ (if (g && decide (0 ≤ idx l id)) = true then l.take (idx l id).toNat ++ l.drop ((idx l id).toNat + 1) else []) ∧ Below w.heap.size w w' := by
  have HR0 := Aside0.mk hr0
  clear hr0
  have HHG := Aside0.mk hg
  clear hg
  have hidx := idx_range l id
  have hcon := fun W B hB hcell hb => index_calls A0 c0 l id B W (Kd.C_below HR0.out hb) hB hcell
  have hfold : Lib.idxBy (fun _ y => y.f0 == id) l default = idx l id := rfl
  simp only [hfold] at hcon
  generalize idx l id = x at hidx hcon ⊢
  clear hfold
  cases g with
  | false =>
    go_enter Try.func14, Try.ntmps14
    go_wp2_with (first
      | (go_at_call 24; refine (has_walk id _).mono ?_; rintro e w3 ⟨rfl, rfl⟩)
      | (go_at_call 26; refine (hcon _ w.heap.size (by simp) (by simp) (below_alloc (Below.refl _ _) _)).mono ?_; rintro e w4 ⟨rfl, hb4⟩)
      | (go_at_call 10; refine (plan_Good.calls A0 c0 l false _ (Kd.C_below HR0.out (below_step (below_alloc (Below.refl _ _) _) hb4)) hc0 HHG.out (Nat.zero_le _)).mono ?_; rintro e w2 ⟨rfl, hb2⟩))
    go_ret2
    exact ⟨_, rfl, Kd.R_nil _ _ _ _ _, below_step (below_step (below_alloc (Below.refl _ _) _) hb4) hb2⟩
  | true =>
    by_cases hx : 0 ≤ x
    · have hx1 : decide (x < 0) = false := decide_eq_false (by omega)
      have hx2 : decide (0 ≤ x) = true := decide_eq_true hx
      rw [hx2]
      go_enter Try.func14, Try.ntmps14
      go_wp2_with (first
        | (go_at_call 24; refine (has_walk id _).mono ?_; rintro e w3 ⟨rfl, rfl⟩)
        | (go_at_call 26; refine (hcon _ w.heap.size (by simp) (by simp) (below_alloc (Below.refl _ _) _)).mono ?_; rintro e w4 ⟨rfl, hb4⟩)
        | (go_at_call 10; refine (plan_Good.calls A0 c0 l true _ (Kd.C_below HR0.out (below_step (below_alloc (Below.refl _ _) _) hb4)) hc0 HHG.out (Nat.zero_le _)).mono ?_; rintro e w2 ⟨rfl, hb2⟩))
      have hw1 := below_step (below_step (below_alloc (Below.refl w.heap.size w) (.cells #[.int .i64 id] 3)) hb4) hb2
      have hxl : x < (l.length : Int) := by omega
      have hxc : x ≤ (c0 : Int) := by omega
      obtain ⟨y, hy⟩ : ∃ y : Int, x + 1 = y := ⟨_, rfl⟩
      have hyw : IntKind.i64.wrap (x + 1) = y := by rw [i64_w]; unfold wrap64; omega
      have hy0 : 0 ≤ y := by omega
      have hyl : y ≤ (l.length : Int) := by omega
      have hyn : y.toNat = x.toNat + 1 := by omega
      have q1 := cut_cap A0 l.length c0 x hx hxc
      obtain ⟨i0, hi0, _, hsz0, _⟩ := info_parts info32
      have q2 := cut_from (P := Try.prog) 22 32 .i64 Try.underlying22 hi0 2 hsz0 A0 l.length c0 y hy0 hyl
      obtain ⟨A4, hA4⟩ : ∃ A4, A4 = (if c0 = y.toNat then A0 else A0.map (·.add (y.toNat * 2))) := ⟨_, rfl⟩
      rw [← hA4] at q2
      have HCW := Kd.C_below HR0.out hw1
      have HCD : Aside0 (Kd.C k32 w2 A4 (l.length - y.toNat) (l.drop y.toNat)) := ⟨by rw [hA4]; have h := Kd.C_drop (m := y.toNat) (c := c0) HCW (by omega) hc0; rw [List.length_drop] at h; exact h⟩
      clear hA4
      have HCT : Aside0 (Kd.C k32 w2 A0 x.toNat (l.take x.toNat)) := ⟨by have h := Kd.C_take (m := x.toNat) HCW (by omega); rw [List.length_take, Nat.min_eq_left (by omega)] at h; exact h⟩
      have HYN := Aside0.mk hyn
      clear hsz0 hi0 HCW hy hyn
      have hbW : Below w2.heap.size w2 ((w2.alloc (Obj.cells #[Value.slice A0 x.toNat x.toNat, Value.slice A4 (l.length - y.toNat) (c0 - y.toNat)] 22)).drew) := below_drew1 (below_alloc (Below.refl _ _) _)
      go_region_held3 (fun _ => True) (trivial)
        ((go_at_call 27; refine (concat_calls w2.heap.size A0 A4 x.toNat (l.length - y.toNat) x.toNat (c0 - y.toNat) (l.take x.toNat) (l.drop y.toNat) _ (by rw [List.length_take]; omega) (by rw [List.length_drop]) (by simp) (by simp) (Kd.C_below HCT.out hbW) (Kd.C_below HCD.out hbW) (by omega)).mono ?_; rintro e w5 ⟨v, rfl, HV, hb5⟩))
      go_wp2
      go_ret2
      refine ⟨_, rfl, ?_, below_step hw1 (below_step hbW hb5)⟩
      have h := Kd.R_lower HV (Nat.le_trans hw1.size hbW.size)
      rw [HYN.out] at h
      exact h
    · have hx1 : decide (x < 0) = true := decide_eq_true (by omega)
      have hx2 : decide (0 ≤ x) = false := decide_eq_false hx
      rw [hx2]
      go_enter Try.func14, Try.ntmps14
      go_wp2_with (first
        | (go_at_call 24; refine (has_walk id _).mono ?_; rintro e w3 ⟨rfl, rfl⟩)
        | (go_at_call 26; refine (hcon _ w.heap.size (by simp) (by simp) (below_alloc (Below.refl _ _) _)).mono ?_; rintro e w4 ⟨rfl, hb4⟩)
        | (go_at_call 10; refine (plan_Good.calls A0 c0 l true _ (Kd.C_below HR0.out (below_step (below_alloc (Below.refl _ _) _) hb4)) hc0 HHG.out (Nat.zero_le _)).mono ?_; rintro e w2 ⟨rfl, hb2⟩))
      go_ret2
      exact ⟨_, rfl, Kd.R_nil _ _ _ _ _, below_step (below_step (below_alloc (Below.refl _ _) _) hb4) hb2⟩
/-- What Cancel computes. -/
def canf (l : List S32) (id : Int) : List S32 := l.take (idx l id).toNat ++ l.drop ((idx l id).toNat + 1)
def plan_Cancel.f (l : List S32) (id : Int) : Option (List S32 × Bool) := if l.length ≤ 1000000 then (plan_Good.f l).map fun g => if (g && decide (0 ≤ idx l id)) = true then (canf l id, true) else ([], false) else none
set_option linter.unusedVariables false
theorem plan_Cancel.calls (A0 : Option Addr) (c0 : Nat) (l0 : List S32) (a1 : Int) (r1 : List S32) (r2 : Bool) (w : World) (hr0 : Kd.C k32 w A0 l0.length l0) (hc0 : l0.length ≤ c0) (h : plan_Cancel.f l0 a1 = some (r1, r2)) (hT0 : TabOk w) :
    Calls Try.prog 14 #[.slice A0 l0.length c0, .int .i64 a1] w fun e w' => ∃ v0_, e = .returned (.tuple #[v0_, .bool r2]) ∧ Kd.R k32 32 w' w.heap.size (fun _ => True) v0_ r1 ∧ Below w.heap.size w w' := by
  unfold plan_Cancel.f at h
  by_cases h1 : l0.length ≤ 1000000
  · rw [if_pos h1] at h
    obtain ⟨g, hg, h⟩ := Option.map_eq_some_iff.1 h
    have hh := cancel_walk A0 c0 l0 a1 w hr0 hc0 h1 g hg
    refine hh.mono ?_
    rintro e w' ⟨v, he, hR, hb⟩
    refine ⟨v, ?_, ?_, hb⟩
    · rw [he]
      split at h
      · rename_i hc; obtain ⟨-, rfl⟩ := Prod.mk.inj h; rw [hc]
      · rename_i hc; obtain ⟨-, rfl⟩ := Prod.mk.inj h; rw [Bool.eq_false_iff.2 hc]
    · split at h
      · rename_i hc; obtain ⟨rfl, -⟩ := Prod.mk.inj h; rw [if_pos hc] at hR; exact hR
      · rename_i hc; obtain ⟨rfl, -⟩ := Prod.mk.inj h; rw [if_neg hc] at hR; exact hR
  · rw [if_neg h1] at h; cases h
end Go.Proofs.Ytboneknainlodaa.Giv
