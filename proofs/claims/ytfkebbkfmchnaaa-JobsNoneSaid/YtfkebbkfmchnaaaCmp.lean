/- The order as a comparison that lays blocks. Conditions: the cells read. -/
import Derived.Test.YtfkebbkfmchnaaaQt
import Derived.Shelf.SlSortCmp.NoneTotal
import Derived.Ground.SlsfProg
import Derived.Lib.AppendZeros
namespace Go.Proofs
open Go.Shelf Go.RowKit Go.Lib Go.Sort
shelf_lay_g SlLaysF0.n6 Slsf 6 at Try 67 as Try.sortFunc
end Go.Proofs
namespace Go.Proofs.Ytfkebbkfmchnaaa.Ln
open Go.Shelf Go.Lib Go.Sort Go.RowKit Go.Proofs.Ytfkebbkfmchnaaa.PBase Go.Proofs.Ytfkebbkfmchnaaa.Cat Go.Proofs.Ytfkebbkfmchnaaa.Heap Go.Proofs.Ytfkebbkfmchnaaa.Dr Go.Proofs.YtfkebbkfmchnaaaW.PrintWords Go.Proofs.YtfkebbkfmchnaaaW.PrintLast Go.Proofs.YtfkebbkfmchnaaaW.PrintMore
/-- A job's turn. -/
def tv (ag : Int) (x : S77) : Int := (turn_Turn.f ag x.f0 x.f1 x.f2).getD 0
theorem tv_is (ag : Int) (x : S77) : turn_Turn.f ag x.f0 x.f1 x.f2 = some (tv ag x) := by
  have h1 : ∀ x y z, ∃ r, turn_in.f x y z = some r := fun x y z => by unfold turn_in.f; split <;> exact ⟨_, rfl⟩
  have h2 : ∀ x y z, ∃ r, turn_Good.f x y z = some r := fun x y z => by
    unfold turn_Good.f
    obtain ⟨r, hr⟩ := h1 y 0 7
    obtain ⟨r2, hr2⟩ := h1 z 0 1099511627776
    rw [hr, Option.bind_some, hr2]
    cases r <;> exact ⟨_, rfl⟩
  have h3 : ∃ r, turn_Turn.f ag x.f0 x.f1 x.f2 = some r := by
    unfold turn_Turn.f
    obtain ⟨r, hr⟩ := h2 x.f0 x.f1 x.f2
    obtain ⟨r2, hr2⟩ := h1 ag 1 1000
    rw [hr, Option.bind_some, hr2]
    cases r <;> cases r2 <;> exact ⟨_, rfl⟩
  obtain ⟨r, hr⟩ := h3
  unfold tv
  rw [hr]
  rfl
theorem lt_iff (ag : Int) (a b : S77) : lt ag a b = true ↔ tv ag a < tv ag b ∨ (tv ag a = tv ag b ∧ a.f0 < b.f0) := by
  have h := lt_is ag a b
  unfold turn_Less.f at h
  rw [tv_is, tv_is, Option.bind_some, Option.bind_some] at h
  by_cases c1 : tv ag a < tv ag b
  · rw [if_pos c1] at h
    have := Option.some.inj h
    rw [← this]
    simp [c1]
  · rw [if_neg c1] at h
    by_cases c2 : tv ag a = tv ag b
    · rw [if_pos c2] at h
      have := Option.some.inj h
      rw [← this]
      simp [c2]
    · rw [if_neg c2] at h
      have := Option.some.inj h
      rw [← this]
      simp [c1, c2]
theorem lt_false (ag : Int) (a b : S77) : lt ag a b = false ↔ ¬ (tv ag a < tv ag b ∨ (tv ag a = tv ag b ∧ a.f0 < b.f0)) := by rw [← lt_iff]; simp
theorem lt_swo (ag : Int) : SWO (lt ag) := by
  refine ⟨fun x => ?_, fun x y z h1 h2 => ?_, fun x y z h1 h2 => ?_⟩
  · rw [lt_false]; omega
  · rw [lt_iff] at *; omega
  · rw [lt_false] at *; omega
theorem lt_ord (ag : Int) : Heap.Ord (lt ag) := by
  refine ⟨fun {a b c} h1 h2 => ?_, fun {a b} h => ?_⟩
  · unfold nb at *
    rw [lt_false] at *; omega
  · unfold nb
    rw [lt_false]; rw [lt_iff] at h; omega
/-- What the list's comparison tells. -/
def cf (ag : Int) (a b : S77) : Int := if lt ag a b = true then -1 else if lt ag b a = true then 1 else 0
theorem ltOf_cf (ag : Int) : ltOf (cf ag) = lt ag := by
  funext a b
  unfold ltOf cf
  cases lt ag a b with
  | true => rfl
  | false =>
    cases lt ag b a <;> rfl
set_option maxHeartbeats 4000000 in
set_option maxRecDepth 100000 in
theorem cmp_calls (ag : Int) (a b : S77) (bq B : Nat) (W : World) (hq : W.cell? ⟨bq, 0, none⟩ = some (.pointer (some ⟨B, 0, none⟩))) (hB : W.cell? ⟨B, 0, none⟩ = some (.int .i64 ag)) :
    Calls Try.prog 68 #[.agg #[.int .i64 a.f0, .int .i64 a.f1, .int .i64 a.f2], .agg #[.int .i64 b.f0, .int .i64 b.f1, .int .i64 b.f2], .pointer (some ⟨bq, 0, none⟩)] W fun e w' => e = .returned (.int .i64 (cf ag a b)) ∧ DBelow W.heap.size W w' := by
  have h1 := fun w h => Dr.turn_Less.calls ag a.f0 a.f1 a.f2 b.f0 b.f1 b.f2 (lt ag a b) w h
  have h2 := fun w h => Dr.turn_Less.calls ag b.f0 b.f1 b.f2 a.f0 a.f1 a.f2 (lt ag b a) w h
  have H1 := Aside0.mk (fun w => h1 w (lt_is ag a b))
  have H2 := Aside0.mk (fun w => h2 w (lt_is ag b a))
  clear h1 h2
  unfold cf
  obtain ⟨g, hg⟩ : ∃ g, g = W.heap.size := ⟨_, rfl⟩
  obtain ⟨k, hk⟩ : ∃ k, k = g + 1 := ⟨_, rfl⟩
  have hbq := World.block_lt_of_cell? W _ hq
  have hBl := World.block_lt_of_cell? W _ hB
  have hb0 : DBelow W.heap.size W ((W.alloc (.cells #[.int .i64 a.f0, .int .i64 a.f1, .int .i64 a.f2] 77)).alloc (.cells #[.int .i64 b.f0, .int .i64 b.f1, .int .i64 b.f2] 77)) := dbelow_alloc (dbelow_alloc (DBelow.refl _ _) _) _
  have hs : ((W.alloc (.cells #[.int .i64 a.f0, .int .i64 a.f1, .int .i64 a.f2] 77)).alloc (.cells #[.int .i64 b.f0, .int .i64 b.f1, .int .i64 b.f2] 77)).heap.size = k + 1 := by simp [hk, hg]
  have hS : ∀ w', DBelow (k + 1) ((W.alloc (.cells #[.int .i64 a.f0, .int .i64 a.f1, .int .i64 a.f2] 77)).alloc (.cells #[.int .i64 b.f0, .int .i64 b.f1, .int .i64 b.f2] 77)) w' → w'.cell? ⟨bq, 0, none⟩ = some (.pointer (some ⟨B, 0, none⟩)) ∧ w'.cell? ⟨B, 0, none⟩ = some (.int .i64 ag) ∧ w'.cell? ⟨g, 0, none⟩ = some (.int .i64 a.f0) ∧ w'.cell? ⟨g, 1, none⟩ = some (.int .i64 a.f1) ∧ w'.cell? ⟨g, 2, none⟩ = some (.int .i64 a.f2) ∧ w'.cell? ⟨k, 0, none⟩ = some (.int .i64 b.f0) ∧ w'.cell? ⟨k, 1, none⟩ = some (.int .i64 b.f1) ∧ w'.cell? ⟨k, 2, none⟩ = some (.int .i64 b.f2) := by
    intro w' hw
    have e : ∀ p j, p < k + 1 → w'.cell? ⟨p, j, none⟩ = ((W.alloc (.cells #[.int .i64 a.f0, .int .i64 a.f1, .int .i64 a.f2] 77)).alloc (.cells #[.int .i64 b.f0, .int .i64 b.f1, .int .i64 b.f2] 77)).cell? ⟨p, j, none⟩ := fun p j hp => hw.b.cell (p := ⟨p, j, none⟩) hp
    refine ⟨?_, ?_, ?_, ?_, ?_, ?_, ?_, ?_⟩
    · rw [e bq 0 (by have : bq < W.heap.size := hbq; omega)]; exact (hb0.b.cell (p := ⟨bq, 0, none⟩) hbq).trans hq
    · rw [e B 0 (by have : B < W.heap.size := hBl; omega)]; exact (hb0.b.cell (p := ⟨B, 0, none⟩) hBl).trans hB
    all_goals (rw [e _ _ (by omega)]; subst hk; subst hg; simp)
  have HS := Aside0.mk hS
  have HB0 := Aside0.mk hb0
  have HSZ := Aside0.mk hs
  clear hS hb0 hs hq hB hbq hBl
  cases h : lt ag a b with
  | true =>
    rw [h] at H1
    go_enter Try.func68, Try.ntmps68
    go_wp2
    rw [← hg, ← hk]
    generalize ((W.alloc (.cells #[.int .i64 a.f0, .int .i64 a.f1, .int .i64 a.f2] 77)).alloc (.cells #[.int .i64 b.f0, .int .i64 b.f1, .int .i64 b.f2] 77)) = W0 at HS HB0 HSZ ⊢
    clear hg hk
    have hS0 := HS.out W0 (DBelow.refl _ _)
    go_region_held3 (fun w' => w'.cell? ⟨bq, 0, none⟩ = some (.pointer (some ⟨B, 0, none⟩)) ∧ w'.cell? ⟨B, 0, none⟩ = some (.int .i64 ag) ∧ w'.cell? ⟨g, 0, none⟩ = some (.int .i64 a.f0) ∧ w'.cell? ⟨g, 1, none⟩ = some (.int .i64 a.f1) ∧ w'.cell? ⟨g, 2, none⟩ = some (.int .i64 a.f2) ∧ w'.cell? ⟨k, 0, none⟩ = some (.int .i64 b.f0) ∧ w'.cell? ⟨k, 1, none⟩ = some (.int .i64 b.f1) ∧ w'.cell? ⟨k, 2, none⟩ = some (.int .i64 b.f2)) (first | go_keep | exact HS.out _ (HSZ.out ▸ (dbelow_step (dbelow_drew1 (DBelow.refl _ _)) hb7)))
      ((go_at_call 69; refine (H1.out _).mono ?_; rintro e w7 ⟨rfl, hb7⟩))
    go_wp2
    go_ret
    exact ⟨rfl, dbelow_step HB0.out (dbelow_step (dbelow_drew1 (DBelow.refl _ _)) hb7)⟩
  | false =>
    rw [h] at H1
    cases h2 : lt ag b a with
    | true =>
      rw [h2] at H2
      go_enter Try.func68, Try.ntmps68
      go_wp2
      rw [← hg, ← hk]
      generalize ((W.alloc (.cells #[.int .i64 a.f0, .int .i64 a.f1, .int .i64 a.f2] 77)).alloc (.cells #[.int .i64 b.f0, .int .i64 b.f1, .int .i64 b.f2] 77)) = W0 at HS HB0 HSZ ⊢
      clear hg hk
      have hS0 := HS.out W0 (DBelow.refl _ _)
      go_region_held3 (fun w' => w'.cell? ⟨bq, 0, none⟩ = some (.pointer (some ⟨B, 0, none⟩)) ∧ w'.cell? ⟨B, 0, none⟩ = some (.int .i64 ag) ∧ w'.cell? ⟨g, 0, none⟩ = some (.int .i64 a.f0) ∧ w'.cell? ⟨g, 1, none⟩ = some (.int .i64 a.f1) ∧ w'.cell? ⟨g, 2, none⟩ = some (.int .i64 a.f2) ∧ w'.cell? ⟨k, 0, none⟩ = some (.int .i64 b.f0) ∧ w'.cell? ⟨k, 1, none⟩ = some (.int .i64 b.f1) ∧ w'.cell? ⟨k, 2, none⟩ = some (.int .i64 b.f2)) (first | go_keep | exact HS.out _ (HSZ.out ▸ (dbelow_step (dbelow_drew1 (DBelow.refl _ _)) hb7)))
        ((go_at_call 69; refine (H1.out _).mono ?_; rintro e w7 ⟨rfl, hb7⟩))
      have hb7' := Aside0.mk (dbelow_step (dbelow_drew1 (DBelow.refl _ _)) hb7)
      have hS7 := HS.out w7 (HSZ.out ▸ hb7'.out)
      clear hS0 hb7
      go_wp2
      go_region_held3 (fun w' => w'.cell? ⟨bq, 0, none⟩ = some (.pointer (some ⟨B, 0, none⟩)) ∧ w'.cell? ⟨B, 0, none⟩ = some (.int .i64 ag) ∧ w'.cell? ⟨g, 0, none⟩ = some (.int .i64 a.f0) ∧ w'.cell? ⟨g, 1, none⟩ = some (.int .i64 a.f1) ∧ w'.cell? ⟨g, 2, none⟩ = some (.int .i64 a.f2) ∧ w'.cell? ⟨k, 0, none⟩ = some (.int .i64 b.f0) ∧ w'.cell? ⟨k, 1, none⟩ = some (.int .i64 b.f1) ∧ w'.cell? ⟨k, 2, none⟩ = some (.int .i64 b.f2)) (first | go_keep | exact HS.out _ (HSZ.out ▸ (dbelow_step hb7'.out (dbelow_step (dbelow_drew1 (DBelow.refl _ _)) hb8))))
        ((go_at_call 69; refine (H2.out _).mono ?_; rintro e w8 ⟨rfl, hb8⟩))
      go_wp2
      go_ret
      exact ⟨rfl, dbelow_step HB0.out (dbelow_step hb7'.out (dbelow_step (dbelow_drew1 (DBelow.refl _ _)) hb8))⟩
    | false =>
      rw [h2] at H2
      go_enter Try.func68, Try.ntmps68
      go_wp2
      rw [← hg, ← hk]
      generalize ((W.alloc (.cells #[.int .i64 a.f0, .int .i64 a.f1, .int .i64 a.f2] 77)).alloc (.cells #[.int .i64 b.f0, .int .i64 b.f1, .int .i64 b.f2] 77)) = W0 at HS HB0 HSZ ⊢
      clear hg hk
      have hS0 := HS.out W0 (DBelow.refl _ _)
      go_region_held3 (fun w' => w'.cell? ⟨bq, 0, none⟩ = some (.pointer (some ⟨B, 0, none⟩)) ∧ w'.cell? ⟨B, 0, none⟩ = some (.int .i64 ag) ∧ w'.cell? ⟨g, 0, none⟩ = some (.int .i64 a.f0) ∧ w'.cell? ⟨g, 1, none⟩ = some (.int .i64 a.f1) ∧ w'.cell? ⟨g, 2, none⟩ = some (.int .i64 a.f2) ∧ w'.cell? ⟨k, 0, none⟩ = some (.int .i64 b.f0) ∧ w'.cell? ⟨k, 1, none⟩ = some (.int .i64 b.f1) ∧ w'.cell? ⟨k, 2, none⟩ = some (.int .i64 b.f2)) (first | go_keep | exact HS.out _ (HSZ.out ▸ (dbelow_step (dbelow_drew1 (DBelow.refl _ _)) hb7)))
        ((go_at_call 69; refine (H1.out _).mono ?_; rintro e w7 ⟨rfl, hb7⟩))
      have hb7' := Aside0.mk (dbelow_step (dbelow_drew1 (DBelow.refl _ _)) hb7)
      have hS7 := HS.out w7 (HSZ.out ▸ hb7'.out)
      clear hS0 hb7
      go_wp2
      go_region_held3 (fun w' => w'.cell? ⟨bq, 0, none⟩ = some (.pointer (some ⟨B, 0, none⟩)) ∧ w'.cell? ⟨B, 0, none⟩ = some (.int .i64 ag) ∧ w'.cell? ⟨g, 0, none⟩ = some (.int .i64 a.f0) ∧ w'.cell? ⟨g, 1, none⟩ = some (.int .i64 a.f1) ∧ w'.cell? ⟨g, 2, none⟩ = some (.int .i64 a.f2) ∧ w'.cell? ⟨k, 0, none⟩ = some (.int .i64 b.f0) ∧ w'.cell? ⟨k, 1, none⟩ = some (.int .i64 b.f1) ∧ w'.cell? ⟨k, 2, none⟩ = some (.int .i64 b.f2)) (first | go_keep | exact HS.out _ (HSZ.out ▸ (dbelow_step hb7'.out (dbelow_step (dbelow_drew1 (DBelow.refl _ _)) hb8))))
        ((go_at_call 69; refine (H2.out _).mono ?_; rintro e w8 ⟨rfl, hb8⟩))
      go_wp2
      go_ret
      exact ⟨rfl, dbelow_step HB0.out (dbelow_step hb7'.out (dbelow_step (dbelow_drew1 (DBelow.refl _ _)) hb8))⟩
end Go.Proofs.Ytfkebbkfmchnaaa.Ln
