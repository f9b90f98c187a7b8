/- ring.order, plain; slices.BinarySearchFunc by it as a call. Conditions: the list reads. -/
import Derived.Test.YtedolmjealgeoaaFr
import Derived.Test.YtedolmjealgeoaaPBasex2
import Derived.Test.YtedolmjealgeoaaPBasex2
import Derived.Deep.RegionHeld3
namespace Go.Proofs.Ytedolmjealgeoaa.Rg
open Go.RowKit Go.Maps Go.Proofs.Ytedolmjealgeoaa.PBase Go.Proofs.Ytedolmjealgeoaa.Cat Go.Proofs.YtedolmjealgeoaaW.PrintWords Go.Proofs.YtedolmjealgeoaaW.PrintLast Go.Proofs.YtedolmjealgeoaaW.PrintMore
set_option linter.unusedVariables false
/-- Is the first one ahead? -/
def lt (a b : S24) : Bool := decide (a.f1 < b.f1) || (a.f1 == b.f1 && decide (a.f0 < b.f0))
theorem or_of (c d : Int) (hc : c = -1 ∨ c = 0 ∨ c = 1) (hd : d = -1 ∨ d = 0 ∨ d = 1) : cmp_Or_int.f 4 [c, d] = some (if c = 0 then d else c) := by
  rcases hc with rfl | rfl | rfl <;> rcases hd with rfl | rfl | rfl <;> decide +kernel
theorem cmpU (a b : Int) : cmp_Compare_uint64.f a b = some (if a < b then -1 else if a > b then 1 else 0) := by
  have h : ∀ x : Int, (x != x) = false := fun x => by simp
  unfold cmp_Compare_uint64.f cmp_isNaN_uint64.f
  rw [h, h, Option.bind_some, Option.bind_some, if_neg (by decide), if_neg (by decide)]
  split
  · rfl
  · split <;> rfl
theorem cmpI (a b : Int) : cmp_Compare_int.f a b = some (if a < b then -1 else if a > b then 1 else 0) := by
  have h : ∀ x : Int, (x != x) = false := fun x => by simp
  unfold cmp_Compare_int.f cmp_isNaN_int.f
  rw [h, h, Option.bind_some, Option.bind_some, if_neg (by decide), if_neg (by decide)]
  split
  · rfl
  · split <;> rfl
/-- What order tells. -/
theorem order_is (a b : S24) : ∃ r, ring_order.f 4 a.f0 a.f1 b.f0 b.f1 = some r ∧ (0 ≤ r ↔ lt a b = false) ∧ (r = -1 ∨ r = 0 ∨ r = 1) := by
  have h3 : ∀ x y : Int, (if x < y then (-1 : Int) else if x > y then 1 else 0) = -1 ∨ (if x < y then (-1 : Int) else if x > y then 1 else 0) = 0 ∨ (if x < y then (-1 : Int) else if x > y then 1 else 0) = 1 := fun x y => by split <;> (try split) <;> simp
  refine ⟨_, by unfold ring_order.f; rw [cmpU, cmpI, Option.bind_some, Option.bind_some, or_of _ _ (h3 _ _) (h3 _ _)]; rfl, ?_, ?_⟩
  · unfold lt
    rw [Bool.or_eq_false_iff, Bool.and_eq_false_iff, decide_eq_false_iff_not, decide_eq_false_iff_not, beq_eq_false_iff_ne]
    split <;> (try split) <;> (try split) <;> omega
  · by_cases h0 : (if a.f1 < b.f1 then (-1 : Int) else if a.f1 > b.f1 then 1 else 0) = 0
    · rw [if_pos h0]; exact h3 _ _
    · rw [if_neg h0]; exact h3 _ _
/-- The search between i and j. -/
def bgo (l : List S24) (d : S24) : Nat → Nat → Nat → Nat
  | 0, i, _ => i
  | n + 1, i, j => if i < j then if lt (rd_T24 l ((i + j) / 2 : Nat)) d = true then bgo l d n ((i + j) / 2 + 1) j else bgo l d n i ((i + j) / 2) else i
set_option maxHeartbeats 4000000 in
set_option maxRecDepth 100000 in
theorem bs_walk (A0 : Option Addr) (c0 : Nat) (l : List S24) (d : S24) (w : World) (hr0 : Kd.C k24 w A0 l.length l) (hlen : l.length ≤ 1000000) :
    Calls Try.prog 13 #[.slice A0 l.length c0, .agg #[.int .i64 d.f0, .int .u64 d.f1], .func (.func 14) #[] #[]] w fun e w' => ∃ b : Bool, e = .returned (.tuple #[.int .i64 (bgo l d l.length 0 l.length : Nat), .bool b]) ∧ Below w.heap.size w w' := by
  have HR0 := Aside0.mk hr0
  clear hr0
  go_enter Try.func13, Try.ntmps13
  go_wp2
  have hbx : Below w.heap.size w (w.alloc (Obj.cells #[Value.int IntKind.i64 d.f0, Value.int IntKind.u64 d.f1] 24)) := below_alloc (Below.refl _ _) _
  have hb0 : (w.alloc (Obj.cells #[Value.int IntKind.i64 d.f0, Value.int IntKind.u64 d.f1] 24)).cell? ⟨w.heap.size, 0, none⟩ = some (.int .i64 d.f0) := by simp
  have hb1 : (w.alloc (Obj.cells #[Value.int IntKind.i64 d.f0, Value.int IntKind.u64 d.f1] 24)).cell? ⟨w.heap.size, 1, none⟩ = some (.int .u64 d.f1) := by simp
  generalize w.alloc (Obj.cells #[Value.int IntKind.i64 d.f0, Value.int IntKind.u64 d.f1] 24) = W0 at hbx hb0 hb1 ⊢
  go_loopg [9, 10] l.length (fun gg v9 v10 wr => ∃ (i j f : Nat), i ≤ j ∧ j ≤ l.length ∧ j - i ≤ f ∧ f ≤ gg ∧ v9 = .int .i64 i ∧ v10 = .int .i64 j ∧ Aside0 (bgo l d l.length 0 l.length = bgo l d f i j) ∧ Below W0.heap.size W0 wr)
  case atStart => exact ⟨0, l.length, l.length, by omega, by omega, by omega, by omega, rfl, rfl, ⟨rfl⟩, Below.refl _ _⟩
  case round =>
    obtain ⟨i, j, f, hij, hj, hf, hfg, rfl, rfl, HG, hb⟩ := hrel
    by_cases hlt : i < j
    · have hlti : (i : Int) < (j : Int) := by omega
      obtain ⟨h, hh⟩ : ∃ h : Nat, (i + j) / 2 = h := ⟨_, rfl⟩
      have e1 : IntKind.i64.wrap ((i : Int) + j) = ((i + j : Nat) : Int) := by rw [i64_w]; unfold wrap64; omega
      go_wp2_with (fail)
      obtain ⟨hI, hhI⟩ : ∃ hI : Int, ((i : Int) + j) / 2 = hI := ⟨_, rfl⟩
      rw [hhI]
      have hIh : hI = (h : Int) := by omega
      have HI := Aside0.mk hIh
      have p1 := eq_true (show 0 ≤ hI by omega)
      have p2 := eq_true (show hI < (l.length : Int) by omega)
      obtain ⟨ad, e2, hx0, hx1⟩ := at_T24 (Kd.C_below HR0.out (below_step hbx hb)) hI (by omega) (by omega)
      subst e2
      have hy0 := (hb.cell (World.block_lt_of_cell? W0 _ hb0)).trans hb0
      have hy1 := (hb.cell (World.block_lt_of_cell? W0 _ hb1)).trans hb1
      clear hhI hIh
      obtain ⟨f, rfl⟩ : ∃ f', f = f' + 1 := ⟨f - 1, by omega⟩
      go_still_tail 6, (by kernel_rfl)
      change wpList _ _ _ _ _ wr.drew
      obtain ⟨r, ho1, ho2, _⟩ := order_is (rd_T24 l hI) d
      have HO2 := Aside0.mk ho2
      clear ho2
      have hb3 : Below W0.heap.size W0 wr.drew := pw_below_drewN hb 1
      generalize wr.drew = W6 at hb3 ⊢
      by_cases hr : r < 0
      · have hrd : decide (r < 0) = true := decide_eq_true hr
        go_wp2_with (go_at_call 14; refine (ring_order.calls 4 _ _ _ _ r _ ho1).mono ?_; rintro e w7 ⟨rfl, hb7⟩)
        have hw : wrap64 (hI + 1) = ((h + 1 : Nat) : Int) := by rw [HI.out]; unfold wrap64; omega
        go_roundg f
        case measure => omega
        case rel => exact ⟨h + 1, j, f, by omega, hj, by omega, Nat.le_refl _, by rw [hw], rfl, ⟨by rw [HG.out, bgo, if_pos hlt, hh, ← HI.out, if_pos (by cases hl : lt (rd_T24 l hI) d with | true => rfl | false => exact absurd (HO2.out.2 hl) (by omega))]⟩, below_step hb3 hb7⟩
      · have hrd : decide (r < 0) = false := decide_eq_false hr
        go_wp2_with (go_at_call 14; refine (ring_order.calls 4 _ _ _ _ r _ ho1).mono ?_; rintro e w7 ⟨rfl, hb7⟩)
        go_roundg f
        case measure => omega
        case rel => exact ⟨i, h, f, by omega, by omega, by omega, Nat.le_refl _, rfl, by rw [HI.out], ⟨by rw [HG.out, bgo, if_pos hlt, hh, ← HI.out, if_neg (by rw [HO2.out.1 (by omega)]; decide)]⟩, below_step hb3 hb7⟩
    · have hlti : ¬ (i : Int) < (j : Int) := by omega
      have hres : bgo l d l.length 0 l.length = i := by
        rw [HG.out]
        cases f with
        | zero => rfl
        | succ f => rw [bgo, if_neg hlt]
      have HRES := Aside0.mk hres
      clear hres
      by_cases hin : i < l.length
      · have hini : (i : Int) < (l.length : Int) := by omega
        go_wp2_with (fail)
        have pi := eq_true (show (0 : Int) ≤ (i : Int) by omega)
        obtain ⟨ad, e2, hx0, hx1⟩ := at_T24 (Kd.C_below HR0.out (below_step hbx hb)) (i : Int) (by omega) (by omega)
        rw [Int.toNat_natCast] at hx0 hx1
        subst e2
        have hy0 := (hb.cell (World.block_lt_of_cell? W0 _ hb0)).trans hb0
        have hy1 := (hb.cell (World.block_lt_of_cell? W0 _ hb1)).trans hb1
        obtain ⟨r, ho1, ho2, _⟩ := order_is (rd_T24 l i) d
        clear ho2
        have hx0' := (hb.cell (World.block_lt_of_cell? W0 _ hb0))
        have l0 := World.block_lt_of_cell? wr _ hx0
        have l1 := World.block_lt_of_cell? wr _ hx1
        have l2 := World.block_lt_of_cell? wr _ hy0
        have l3 := World.block_lt_of_cell? wr _ hy1
        go_region_held3 (fun w' => w'.cell? (ad.add (i * 2)) = some (.int .i64 (rd_T24 l i).f0) ∧ w'.cell? ⟨(ad.add (i * 2)).block, (ad.add (i * 2)).off + 1, none⟩ = some (.int .u64 (rd_T24 l i).f1) ∧ w'.cell? ⟨w.heap.size, 0, none⟩ = some (.int .i64 d.f0) ∧ w'.cell? ⟨w.heap.size, 1, none⟩ = some (.int .u64 d.f1))
          (first | go_keep | exact ⟨(hb7.cell l0).trans hx0, (hb7.cell (p := ⟨(ad.add (i * 2)).block, (ad.add (i * 2)).off + 1, none⟩) l1).trans hx1, (hb7.cell (p := ⟨w.heap.size, 0, none⟩) l2).trans hy0, (hb7.cell (p := ⟨w.heap.size, 1, none⟩) l3).trans hy1⟩)
          ((go_at_call 14; refine (ring_order.calls 4 _ _ _ _ r _ ho1).mono ?_; rintro e w7 ⟨rfl, hb7'⟩; have hb7 := below_step (below_drew1 (Below.refl wr.heap.size wr)) hb7'))
        go_wp2
        go_ret2
        exact ⟨_, by rw [HRES.out]; rfl, below_step hbx (below_step hb hb7)⟩
      · have hini : ¬ (i : Int) < (l.length : Int) := by omega
        go_wp2_with (fail)
        go_quiet (fail)
        go_wp2
        go_ret2
        exact ⟨_, by rw [HRES.out]; rfl, below_step hbx (pw_below_drewN hb _)⟩
end Go.Proofs.Ytedolmjealgeoaa.Rg
