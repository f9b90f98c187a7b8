/- The reference's Drop as a call. Conditions: the queue lies in memory as told. -/
import Derived.Test.YtgffcbhkkjigfaaRf
namespace Go.Proofs.Ytgffcbhkkjigfaa.Ln
open Go.RowKit Go.Proofs.Ytgffcbhkkjigfaa.PBase Go.Proofs.Ytgffcbhkkjigfaa.Cat Go.Proofs.Ytgffcbhkkjigfaa.Heap Go.Proofs.YtgffcbhkkjigfaaW.PrintWords Go.Proofs.YtgffcbhkkjigfaaW.PrintLast Go.Proofs.YtgffcbhkkjigfaaW.PrintMore
set_option linter.unusedVariables false
theorem R_lit0 (W : World) : Kd.R k32 32 (W.alloc (.cells #[] 32)) W.heap.size (fun _ => True) (.slice (some ⟨W.heap.size, 0, none⟩) 0 0) [] := by
  refine ⟨fun _ _ => trivial, OwnRow.lit W W.heap.size (inner := flat []) ?_ (Nat.le_refl _) (by simp)⟩
  exact reps_flat (fun x => k32_mkM _ _ _ x) []
theorem below_lower {b b2 : Nat} {W W1 : World} (h : Below b W W1) (hb : b2 ≤ b) : Below b2 W W1 := ⟨h.os, h.tape, h.output, h.size, fun k hk => h.block k (Nat.lt_of_lt_of_le hk hb)⟩
section
variable {N : Nat} {w : World} {R : Nat} {v : Value} {ag rm ct : Int} {L : List S32}
/-- Where a call leaves the reference's queue: a new row or the same. -/
def RGo (N : Nat) (w : World) (R : Nat) (v : Value) (w' : World) (ag rm ct : Int) (L : List S32) : Prop := ∃ v', RS N w' R v' ag rm ct L ∧ Fr (fun b => b = R) w w' ∧ (v' = v ∨ ∀ b, v'.ownBlock = some b → w.heap.size ≤ b)
theorem RS.put {w1 : World} (h : RS N w R v ag rm ct L) (hb : Below w.heap.size w w1) {v' : Value} {L' : List S32} (hR : Kd.R k32 32 w1 w.heap.size (fun _ => True) v' L') (ct1 : Int) : RS N (w1.setCell ⟨R, 3, none⟩ v') R v' ag rm ct L' := by
  have hlt := blk_lt h.g
  have hg := blk_set (blk_below h.g hb) 3 v'
  refine ⟨hg, ?_, h.nr⟩
  have h2 : Kd.R k32 32 w1 w.heap.size (fun k => v'.ownBlock = some k ∧ k ≠ R) v' L' := Kd.R_mono (Kd.R_tight2 rfl (Kd.R_bound hR)) (fun k hk => ⟨hk.1.symm, by have := hk.2.2.1; omega⟩)
  have hN : N ≤ w.heap.size := by have := h.nr; omega
  have h3 := Kd.R_lower h2 hN
  exact Kd.R_kept h3 (S := fun k => k = R) ⟨by simp [World.setCell], fun i hi hn => Below.heap_setCell w1 ⟨R, 3, none⟩ v' i hn⟩ (fun k hk => hk.2)
set_option maxHeartbeats 4000000 in
set_option maxRecDepth 100000 in
theorem rdrop_yes (h : RS N w R v ag rm ct L) (id : Int) (k : Nat) (hk : k < L.length) (hp : place L id = (k : Int)) (hl : L.length ≤ 1000) :
    Calls Try.prog 23 #[.pointer (some ⟨R, 0, none⟩), .int .i64 id] w fun e w' => e = .returned (.bool true) ∧ Aside0 (RGo N w R v w' ag rm ct (L.take k ++ L.drop (k + 1))) := by
  have hf := fun (W : World) (hb : Below w.heap.size w W) => rfind_calls (h.step hb) id (by omega)
  rw [hp] at hf
  have hf := hf w (Below.refl _ _)
  obtain ⟨A, c, rfl, hc, hC⟩ := Kd.R_reads h.r
  have HC := Aside0.mk hC
  obtain ⟨j, hj⟩ : ∃ j : Int, ((k + 1 : Nat) : Int) = j := ⟨_, rfl⟩
  have hjw : IntKind.i64.wrap ((k : Int) + 1) = j := by rw [i64_w]; unfold wrap64; omega
  have hjw2 : IntKind.i64.wrap j = j := by clear hjw; rw [i64_w]; unfold wrap64; omega
  obtain ⟨i0, hi0, hzz⟩ := Option.map_eq_some_iff.1 Cat.info32
  simp only [Prod.mk.injEq] at hzz
  have hsz0 := hzz.2.1
  have q1 := cut_to (P := Try.prog) 43 32 .i64 Try.underlying43 hi0 A L.length c (k : Int) (by omega) (by omega) hc
  have q2 := cut_from (P := Try.prog) 43 32 .i64 Try.underlying43 hi0 3 hsz0 A L.length c j (by omega) (by omega)
  rw [Int.toNat_natCast] at q1
  obtain ⟨A4, hA4⟩ : ∃ A4, A4 = (if c = j.toNat then A else A.map (·.add (j.toNat * 3))) := ⟨_, rfl⟩
  rw [← hA4] at q2
  have HJ := Aside0.mk hj
  have HLL : Aside0 (L.length ≤ 1000 ∧ k < L.length ∧ j.toNat = k + 1) := ⟨⟨hl, hk, by omega⟩⟩
  have hk0 : ¬ (k : Int) < 0 := by omega
  have hk1 : 0 ≤ (k : Int) := by omega
  have hk2 : (k : Int) ≤ (L.length : Int) := by omega
  have hj0 : 0 ≤ j := by omega
  have hj2 : j ≤ (L.length : Int) := by omega
  have H := Aside0.mk h
  have HA4 := Aside0.mk hA4
  have Hc := Aside0.mk hc
  clear h hC hj hA4 hzz hsz0 hi0 hc
  have hk9 := True.intro
  go_enter Try.func23, Try.ntmps23
  go_wp2_with (go_at_call 34; refine hf.mono ?_; rintro e w1 ⟨rfl, hb1⟩; clear hf)
  have HM := Aside0.mk (H.out.step hb1)
  have c3 : w1.cell? ⟨R, 3, none⟩ = some (.slice A L.length c) := (blk_cell HM.out.g 3).trans rfl
  refine start_ (n := 20) (S := fun w' => w'.cell? ⟨R, 3, none⟩ = some (.slice A L.length c)) (ds := [19]) #[false, false, false, false, false, false, false, false, false, false, false, false, false, false, false, false, false, false, false, false] (by kernel_rfl) rfl rfl c3 (fun hHeld => ?_)
  have hb2 := below_drew1 (Below.refl w1.heap.size w1)
  have HM2 := Aside0.mk (HM.out.step hb2)
  have hB2 := Aside0.mk (below_step hb1 hb2)
  generalize w1.drew = W2 at hHeld HM2 hB2 ⊢
  clear c3 hb2 HM hb1
  have HS2 := Aside0.mk hHeld
  have HG2 := Aside0.mk HM2.out.g
  have HR2 : Aside0 (R < W2.heap.size) := ⟨blk_lt HM2.out.g⟩
  have HC2 := Aside0.mk (Kd.C_below HC.out hB2.out)
  have hbA := Aside0.mk (below_alloc (Below.refl W2.heap.size W2) (.cells #[] 32))
  have HCT : Aside0 (Kd.C k32 (W2.alloc (.cells #[] 32)) A k (L.take k)) := ⟨by have h := Kd.C_take (m := k) (Kd.C_below HC2.out hbA.out) (by have := HLL.out; omega); rw [List.length_take, Nat.min_eq_left (by have := HLL.out; omega)] at h; exact h⟩
  have HCD : Aside0 (Kd.C k32 W2 A4 (L.length - j.toNat) (L.drop j.toNat)) := ⟨by rw [HA4.out]; have h := Kd.C_drop (m := j.toNat) (c := c) HC2.out (by have := HLL.out; omega) Hc.out; rw [List.length_drop] at h; exact h⟩
  refine pure_ (i := 0) (N := some 11) (v := ?_) (a' := ?_) #[true, false, false, false, false, false, false, false, false, false, false, false, false, false, false, false, false, false, false, false] rfl rfl (by kernel_rfl) (fun _ _ _ h => h) (Or.inl ⟨by rfl, ?_⟩) ?_ ?_
  rotate_left
  · intro w'
    go_simp
    with_reducible rfl
  rotate_left
  · simp only [Act.put, List.setIfInBounds_toArray, List.set_cons_zero, List.set_cons_succ]
    rfl
  refine pure_ (i := 2) (N := some 13) (v := ?_) (a' := ?_) #[true, false, true, false, false, false, false, false, false, false, false, false, false, false, false, false, false, false, false, false] rfl rfl (by kernel_rfl) (fun _ _ _ h => h) (Or.inl ⟨by rfl, ?_⟩) ?_ ?_
  rotate_left
  · intro w'
    go_simp
    with_reducible rfl
  rotate_left
  · simp only [Act.put, List.setIfInBounds_toArray, List.set_cons_zero, List.set_cons_succ]
    rfl
  refine pure_ (i := 3) (N := some 14) (v := ?_) (a' := ?_) #[true, false, true, true, false, false, false, false, false, false, false, false, false, false, false, false, false, false, false, false] rfl rfl (by kernel_rfl) (fun _ _ _ h => h) (Or.inl ⟨by rfl, ?_⟩) ?_ ?_
  rotate_left
  · intro w'
    go_simp
    with_reducible rfl
  rotate_left
  · simp only [Act.put, List.setIfInBounds_toArray, List.set_cons_zero, List.set_cons_succ]
    rfl
  refine pure_ (i := 4) (N := some 15) (v := ?_) (a' := ?_) #[true, false, true, true, true, false, false, false, false, false, false, false, false, false, false, false, false, false, false, false] rfl rfl (by kernel_rfl) (fun _ _ _ h => h) (Or.inl ⟨by rfl, ?_⟩) ?_ ?_
  rotate_left
  · intro w'
    go_simp
    with_reducible rfl
  rotate_left
  · simp only [Act.put, List.setIfInBounds_toArray, List.set_cons_zero, List.set_cons_succ]
    rfl
  refine take_ (i := 5) (N := some 16) (v := ?_) (a' := ?_) #[true, false, true, true, true, true, false, false, false, false, false, false, false, false, false, false, false, false, false, false] rfl rfl (by kernel_rfl) (fun _ _ _ h => h) (Or.inl ⟨by rfl, ?_⟩) hHeld ?_ ?_
  rotate_left
  · intro w' s0
    go_simp
    with_reducible rfl
  rotate_left
  · simp only [Act.put, List.setIfInBounds_toArray, List.set_cons_zero, List.set_cons_succ]
    rfl
  refine pure_ (i := 6) (N := some 17) (v := ?_) (a' := ?_) #[true, false, true, true, true, true, true, false, false, false, false, false, false, false, false, false, false, false, false, false] rfl rfl (by kernel_rfl) (fun _ _ _ h => h) (Or.inl ⟨by rfl, ?_⟩) ?_ ?_
  rotate_left
  · intro w'
    go_simp
    with_reducible rfl
  rotate_left
  · simp only [Act.put, List.setIfInBounds_toArray, List.set_cons_zero, List.set_cons_succ]
    rfl
  refine pure_ (i := 7) (N := some 18) (v := ?_) (a' := ?_) #[true, false, true, true, true, true, true, true, false, false, false, false, false, false, false, false, false, false, false, false] rfl rfl (by kernel_rfl) (fun _ _ _ h => h) (Or.inl ⟨by rfl, ?_⟩) ?_ ?_
  rotate_left
  · intro w'
    go_simp
    with_reducible rfl
  rotate_left
  · simp only [Act.put, List.setIfInBounds_toArray, List.set_cons_zero, List.set_cons_succ]
    rfl
  refine pure_ (i := 9) (N := some 20) (v := ?_) (a' := ?_) #[true, false, true, true, true, true, true, true, false, true, false, false, false, false, false, false, false, false, false, false] rfl rfl (by kernel_rfl) (fun _ _ _ h => h) (Or.inl ⟨by rfl, ?_⟩) ?_ ?_
  rotate_left
  · intro w'
    go_simp
    with_reducible rfl
  rotate_left
  · simp only [Act.put, List.setIfInBounds_toArray, List.set_cons_zero, List.set_cons_succ]
    rfl
  refine pure_ (i := 10) (N := some 21) (v := ?_) (a' := ?_) #[true, false, true, true, true, true, true, true, false, true, true, false, false, false, false, false, false, false, false, false] rfl rfl (by kernel_rfl) (fun _ _ _ h => h) (Or.inl ⟨by rfl, ?_⟩) ?_ ?_
  rotate_left
  · intro w'
    go_simp
    with_reducible rfl
  rotate_left
  · simp only [Act.put, List.setIfInBounds_toArray, List.set_cons_zero, List.set_cons_succ]
    rfl
  refine pure_ (i := 11) (N := some 22) (v := ?_) (a' := ?_) #[true, false, true, true, true, true, true, true, false, true, true, true, false, false, false, false, false, false, false, false] rfl rfl (by kernel_rfl) (fun _ _ _ h => h) (Or.inl ⟨by rfl, ?_⟩) ?_ ?_
  rotate_left
  · intro w'
    go_simp
    with_reducible rfl
  rotate_left
  · simp only [Act.put, List.setIfInBounds_toArray, List.set_cons_zero, List.set_cons_succ]
    rfl
  refine take_ (i := 12) (N := some 23) (v := ?_) (a' := ?_) #[true, false, true, true, true, true, true, true, false, true, true, true, true, false, false, false, false, false, false, false] rfl rfl (by kernel_rfl) (fun _ _ _ h => h) (Or.inl ⟨by rfl, ?_⟩) hHeld ?_ ?_
  rotate_left
  · intro w' s0
    go_simp
    with_reducible rfl
  rotate_left
  · simp only [Act.put, List.setIfInBounds_toArray, List.set_cons_zero, List.set_cons_succ]
    rfl
  refine pure_ (i := 13) (N := some 24) (v := ?_) (a' := ?_) #[true, false, true, true, true, true, true, true, false, true, true, true, true, true, false, false, false, false, false, false] rfl rfl (by kernel_rfl) (fun _ _ _ h => h) (Or.inl ⟨by rfl, ?_⟩) ?_ ?_
  rotate_left
  · intro w'
    go_simp
    with_reducible rfl
  rotate_left
  · simp only [Act.put, List.setIfInBounds_toArray, List.set_cons_zero, List.set_cons_succ]
    rfl
  refine pure_ (i := 14) (N := some 25) (v := ?_) (a' := ?_) #[true, false, true, true, true, true, true, true, false, true, true, true, true, true, true, false, false, false, false, false] rfl rfl (by kernel_rfl) (fun _ _ _ h => h) (Or.inl ⟨by rfl, ?_⟩) ?_ ?_
  rotate_left
  · intro w'
    go_simp
    with_reducible rfl
  rotate_left
  · simp only [Act.put, List.setIfInBounds_toArray, List.set_cons_zero, List.set_cons_succ]
    rfl
  refine pure_ (i := 15) (N := some 26) (v := ?_) (a' := ?_) #[true, false, true, true, true, true, true, true, false, true, true, true, true, true, true, true, false, false, false, false] rfl rfl (by kernel_rfl) (fun _ _ _ h => h) (Or.inl ⟨by rfl, ?_⟩) ?_ ?_
  rotate_left
  · intro w'
    go_simp
    with_reducible rfl
  rotate_left
  · simp only [Act.put, List.setIfInBounds_toArray, List.set_cons_zero, List.set_cons_succ]
    rfl
  refine one_ (i := 1) (N := some 12) #[true, true, true, true, true, true, true, true, false, true, true, true, true, true, true, true, false, false, false, false] rfl rfl (by kernel_rfl) (by decide) (fun K hK => ?_)
  refine event_step (v := .slice (some ⟨W2.heap.size, 0, none⟩) 0 0) (w1 := W2.alloc (.cells #[] 32)) (by rfl) (by go_simp) ?_
  refine hK.out _ _ ((hbA.out.cell (p := ⟨R, 3, none⟩) HR2.out).trans hHeld) (fun hHeld => ?_)
  clear hK K
  refine norm_ (a' := ?_) ?_ ?_
  rotate_left
  · show Act.put _ (some 12) _ = _
    simp only [Act.put, List.setIfInBounds_toArray, List.set_cons_zero, List.set_cons_succ]
    rfl
  refine one_ (i := 8) (N := some 19) #[true, true, true, true, true, true, true, true, true, true, true, true, true, true, true, true, false, false, false, false] rfl rfl (by kernel_rfl) (by decide) (fun K hK => ?_)
  refine step_rows (K := _) W2.heap.size (by rfl) (.tmp 12) (.tmp 18) (by rfl) (.slice (some ⟨W2.heap.size, 0, none⟩) 0 0) [] A k c (L.take k) (by rfl) (by rfl) (R_lit0 W2) HCT.out hbA.out.size (by simp only [List.length_nil]; have := HLL.out; omega) ?_
  intro v3 w3 HV3 hb3
  have hb3 := Aside0.mk (hbA.out.trans hb3)
  have HV3 := Aside0.mk HV3
  refine hK.out _ _ ((hb3.out.cell (p := ⟨R, 3, none⟩) HR2.out).trans HS2.out) (fun hHeld => ?_)
  clear hK K
  refine norm_ (a' := ?_) ?_ ?_
  rotate_left
  · show Act.put _ (some 19) _ = _
    simp only [Act.put, List.setIfInBounds_toArray, List.set_cons_zero, List.set_cons_succ]
    rfl
  refine one_ (i := 16) (N := some 27) #[true, true, true, true, true, true, true, true, true, true, true, true, true, true, true, true, true, false, false, false] rfl rfl (by kernel_rfl) (by decide) (fun K hK => ?_)
  refine step_rows (K := _) W2.heap.size (by rfl) (.tmp 19) (.tmp 26) (by rfl) v3 ([] ++ L.take k) A4 (L.length - j.toNat) (c - j.toNat) (L.drop j.toNat) (by rfl) (by rfl) HV3.out (Kd.C_below HCD.out hb3.out) hb3.out.size (by have := HLL.out; simp; omega) ?_
  intro v4 w4 HV4 hb4
  have hb4 := Aside0.mk (hb3.out.trans hb4)
  have HV4 := Aside0.mk HV4
  refine hK.out _ _ ((hb4.out.cell (p := ⟨R, 3, none⟩) HR2.out).trans HS2.out) (fun hHeld => ?_)
  clear hK K
  refine norm_ (a' := ?_) ?_ ?_
  rotate_left
  · show Act.put _ (some 27) _ = _
    simp only [Act.put, List.setIfInBounds_toArray, List.set_cons_zero, List.set_cons_succ]
    rfl
  refine pure_ (i := 17) (N := some 28) (v := ?_) (a' := ?_) #[true, true, true, true, true, true, true, true, true, true, true, true, true, true, true, true, true, true, false, false] rfl rfl (by kernel_rfl) (fun _ _ _ h => h) (Or.inl ⟨by rfl, ?_⟩) ?_ ?_
  rotate_left
  · intro w'
    go_simp
    with_reducible rfl
  rotate_left
  · simp only [Act.put, List.setIfInBounds_toArray, List.set_cons_zero, List.set_cons_succ]
    rfl
  refine pure_ (i := 18) (N := some 29) (v := ?_) (a' := ?_) #[true, true, true, true, true, true, true, true, true, true, true, true, true, true, true, true, true, true, true, false] rfl rfl (by kernel_rfl) (fun _ _ _ h => h) (Or.inl ⟨by rfl, ?_⟩) ?_ ?_
  rotate_left
  · intro w'
    go_simp
    with_reducible rfl
  rotate_left
  · simp only [Act.put, List.setIfInBounds_toArray, List.set_cons_zero, List.set_cons_succ]
    rfl
  refine last_ (i := 19) (N := none) #[true, true, true, true, true, true, true, true, true, true, true, true, true, true, true, true, true, true, true, true] rfl rfl (by kernel_rfl) (by decide) (fun K hK => ?_)
  obtain ⟨A5, c5, rfl⟩ := Kd.R_slice HV4.out
  have hB4 := Aside0.mk (blk_below HG2.out hb4.out)
  have hs : w4.cell? ⟨R, 3, none⟩ = some (.slice A L.length c) := (blk_cell hB4.out 3).trans rfl
  have hfs := blk_frozen hB4.out 3
  refine skip_ (w1 := ?_) (by rfl) rfl ?_ ?_
  rotate_left
  · go_simp
    rfl
  refine hK.out _ _ ?_
  clear hK K
  refine done_ (by kernel_rfl) ?_
  go_wp2
  go_ret
  have h9 := HM2.out.put hb4.out HV4.out ct
  have hLn : ([] ++ L.take k ++ L.drop j.toNat).length = min k L.length + (L.length - j.toNat) := by simp
  rw [hLn] at h9
  have hLe : [] ++ L.take k ++ L.drop j.toNat = L.take k ++ L.drop (k + 1) := by rw [List.nil_append, HLL.out.2.2]
  rw [hLe] at h9
  refine ⟨rfl, ⟨_, h9, ?_, .inr (fun b hb => ?_)⟩⟩
  · exact Fr.then_ (Fr.of_below (below_step hB2.out hb4.out)) (Fr.set w4 R 3 _) (fun _ h => .inl h)
  · skip
    exact Nat.le_trans hB2.out.size (own_base (own_of_R HV4.out) b (by rw [hLn]; exact hb))
set_option maxHeartbeats 4000000 in
set_option maxRecDepth 100000 in
theorem rdrop_no (h : RS N w R v ag rm ct L) (id : Int) (hp : place L id = -1) (hl : L.length ≤ 1000) :
    Calls Try.prog 23 #[.pointer (some ⟨R, 0, none⟩), .int .i64 id] w fun e w' => e = .returned (.bool false) ∧ Aside0 (RGo N w R v w' ag rm ct L) := by
  have hf := rfind_calls h id (by omega)
  rw [hp] at hf
  have H := Aside0.mk h
  clear h
  go_enter Try.func23, Try.ntmps23
  go_wp2_with (go_at_call 34; refine hf.mono ?_; rintro e w1 ⟨rfl, hb1⟩; clear hf)
  go_ret
  exact ⟨rfl, ⟨v, H.out.step hb1, Fr.of_below hb1, .inl rfl⟩⟩
theorem rdrop_calls (h : RS N w R v ag rm ct L) (id : Int) (hl : L.length ≤ 1000) :
    Calls Try.prog 23 #[.pointer (some ⟨R, 0, none⟩), .int .i64 id] w fun e w' => e = .returned (.bool (decide (0 ≤ place L id))) ∧ Aside0 (RGo N w R v w' ag rm ct (rdropL L id)) := by
  unfold rdropL
  rcases place_cases L id with ⟨h1, h2⟩ | ⟨k, h1, h2, h3⟩
  · rw [h1, if_neg (by omega)]
    exact rdrop_no h id h1 hl
  · have := rdrop_yes h id k h1 h2 hl
    rw [h2, if_pos (by omega), Int.toNat_natCast, decide_eq_true (by omega)]
    exact this
end
end Go.Proofs.Ytgffcbhkkjigfaa.Ln

namespace Go.Proofs.Ytgffcbhkkjigfaa.Ln
open Go.RowKit Go.Proofs.Ytgffcbhkkjigfaa.PBase Go.Proofs.Ytgffcbhkkjigfaa.Cat Go.Proofs.Ytgffcbhkkjigfaa.Heap Go.Proofs.YtgffcbhkkjigfaaW.PrintWords Go.Proofs.YtgffcbhkkjigfaaW.PrintLast Go.Proofs.YtgffcbhkkjigfaaW.PrintMore
set_option linter.unusedVariables false
theorem first_calls (ag : Int) (A : Option Addr) (c : Nat) (L : List S32) (n : Int) (W : World) (hC : Kd.C k32 W A L.length L) (hc : L.length ≤ c) (hl : L.length ≤ 1000) (hn : fst ag L 0 L = n) : Calls Try.prog 35 #[.int .i64 ag, .slice A L.length c] W fun e w' => e = .returned (.int .i64 n) ∧ Below W.heap.size W w' := by
  subst hn
  exact remontoirref08_First.calls (L.length + 2 + L.length) ag A c L _ W hC hc (ref_first ag L (by omega))
theorem rtake_ret {Q : Ending → World → Prop} {tmps : Array Value} {W : World} {x : S32} {e : Int} {g : Nat} (hg : tmps.getD 2 undef = .pointer (some ⟨g, 0, none⟩)) (he : tmps.getD 3 undef = .int .i64 e) (hb : W.heap[g]? = some (.cells #[.int .i64 x.f0, .int .i64 x.f1, .int .i64 x.f2] 32 (0, 0))) (hQ : Q (.returned (.tuple #[wv x, .int .i64 e])) W) : bodyPost Try.prog Try.f21 Q Exit.ret { tmps := tmps, defers := [] } W :=
  bodyPost_ret (v := .tuple #[wv x, .int .i64 e]) (by rw [← he]; exact results_ct (fn := Try.f21) rfl tmps W g 32 _ (0, 0) _ hg hb Try.underlying32 rfl (by kernel_rfl)) rfl hQ
section
variable {N : Nat} {w : World} {R : Nat} {v : Value} {ag rm ct : Int} {L : List S32}
theorem RS.setCt (h : RS N w R v ag rm ct L) (ct1 : Int) : RS N (w.setCell ⟨R, 2, none⟩ (.int .i64 ct1)) R v ag rm ct1 L :=
  ⟨blk_set h.g 2 _, Kd.R_kept h.r (S := fun k => k = R) ⟨by simp [World.setCell], fun i hi hn => Below.heap_setCell w ⟨R, 2, none⟩ _ i hn⟩ (fun k hk => hk.2), h.nr⟩
set_option maxHeartbeats 4000000 in
set_option maxRecDepth 100000 in
theorem rtake_none (h : RS N w R v ag rm ct L) (hfst : fst ag L 0 L = -1) (hl : L.length ≤ 1000) : Calls Try.prog 21 #[.pointer (some ⟨R, 0, none⟩)] w fun e w' => e = .returned (.tuple #[wv z32, .int .i64 12]) ∧ Aside0 (RGo N w R v w' ag rm ct L) := by
  replace hfst := Aside0.mk hfst
  have H := Aside0.mk h
  obtain ⟨A, c, rfl, hc, hC⟩ := Kd.R_reads h.r
  have HC := Aside0.mk hC
  have Hc := Aside0.mk hc
  clear hc hC
  clear h
  go_enter Try.func21, Try.ntmps21
  go_wp2_with (first
    | ((with_reducible refine gate_dst (N := 2) rfl ?_); refine box_event ?hg (N := 2) ?hd (cs := #[.int .i64 0, .int .i64 0, .int .i64 0]) (t := 32) ?hr ?_; (case hd => rfl); (case hg => rfl); (case hr => first | (go_simp; done) | (go_simp; rfl)); intro g hg w1 hbox hb; have hge := Aside0.mk (Nat.le_of_eq hg.symm : w.heap.size ≤ g); clear hg; have HBX := Aside0.mk hbox; have HB := Aside0.mk hb; clear hbox hb))
  have HM := Aside0.mk (H.out.step HB.out)
  have c0 : w1.cell? ⟨R, 0, none⟩ = some (.int .i64 ag) := (blk_cell HM.out.g 0).trans rfl
  have c3 : w1.cell? ⟨R, 3, none⟩ = some (.slice A L.length c) := (blk_cell HM.out.g 3).trans rfl
  have hlt := blk_lt HM.out.g
  have kp : Aside0 (∀ w', Below w1.heap.size w1 w' → w'.cell? ⟨R, 0, none⟩ = some (.int .i64 ag) ∧ w'.cell? ⟨R, 3, none⟩ = some (.slice A L.length c)) := ⟨fun w' hb => ⟨(hb.cell (p := ⟨R, 0, none⟩) hlt).trans c0, (hb.cell (p := ⟨R, 3, none⟩) hlt).trans c3⟩⟩
  have hbD := Aside0.mk (below_drew1 (Below.refl w1.heap.size w1))
  have HC1 := Aside0.mk (Kd.C_below HC.out (below_step HB.out hbD.out))
  clear hlt
  go_region_held3 (fun w' => w'.cell? ⟨R, 0, none⟩ = some (.int .i64 ag) ∧ w'.cell? ⟨R, 3, none⟩ = some (.slice A L.length c)) (first | go_keep | exact kp.out _ hbD.out | exact kp.out _ (below_step hbD.out hb8)) ((go_at_call 35; refine (first_calls ag A c L (-1) _ HC1.out Hc.out hl hfst.out).mono ?_; rintro e w8 ⟨rfl, hb8⟩))
  have hb9 := Aside0.mk (below_step hbD.out hb8)
  have hbox8 := Aside0.mk (blk_below HBX.out hb9.out)
  have hs0 := (blk_cell hbox8.out 0).trans rfl
  have hs1 := (blk_cell hbox8.out 1).trans rfl
  have hs2 := (blk_cell hbox8.out 2).trans rfl
  have hf0 := blk_frozen hbox8.out 0
  have hf1 := blk_frozen hbox8.out 1
  have hf2 := blk_frozen hbox8.out 2
  go_wp2
  have hbT := Aside0.mk (below_step HB.out hb9.out)
  exact rtake_ret (x := z32) rfl rfl (blk_put (blk_put (blk_put hbox8.out 0 _ rfl) 1 _ rfl) 2 _ rfl) ⟨rfl, ⟨_, H.out.step (below_set (below_set (below_set hbT.out hge.out) hge.out) hge.out), Fr.of_below (below_set (below_set (below_set hbT.out hge.out) hge.out) hge.out), .inl rfl⟩⟩
set_option maxHeartbeats 4000000 in
set_option maxRecDepth 100000 in
theorem rtake_yes (h : RS N w R v ag rm ct L) (k : Nat) (hk : k < L.length) (hfst : fst ag L 0 L = (k : Int)) (x : S32) (hx : L[k] = x) (hl : L.length ≤ 1000) (ct1 : Int) (hct : IntKind.i64.wrap (ct + 1) = ct1) : Calls Try.prog 21 #[.pointer (some ⟨R, 0, none⟩)] w fun e w' => e = .returned (.tuple #[wv x, .int .i64 0]) ∧ Aside0 (RGo N w R v w' ag rm ct1 (rdropL L x.f0)) := by
  replace hfst := Aside0.mk hfst
  have H := Aside0.mk h
  obtain ⟨A, c, rfl, hc, hC⟩ := Kd.R_reads h.r
  obtain ⟨ad, e1, _, _, _⟩ := at_T32 hC (k : Int) (by omega) (by omega)
  subst e1
  have HC := Aside0.mk hC
  have Hc := Aside0.mk hc
  have hxr : rd_T32 L (k : Int) = x := by rw [rd_get hk]; exact hx
  replace hxr := Aside0.mk hxr
  have HCT := Aside0.mk hct
  have hwR := Aside0.mk (blk_lt h.g)
  have hvl : Aside0 (∀ b, (Value.slice (some ad) L.length c).ownBlock = some b → b < w.heap.size) := ⟨fun b hb => own_lt (own_of_R h.r) b hb⟩
  have hk0 : ¬ (k : Int) < 0 := by omega
  have p1 := eq_true (show 0 ≤ (k : Int) by omega)
  have p2 := eq_true (show (k : Int) < (L.length : Int) by omega)
  have hK := Aside0.mk hk
  clear hc hC h hx hk
  go_enter Try.func21, Try.ntmps21
  go_wp2_with (first
    | ((with_reducible refine gate_dst (N := 2) rfl ?_); refine box_event ?hg (N := 2) ?hd (cs := #[.int .i64 0, .int .i64 0, .int .i64 0]) (t := 32) ?hr ?_; (case hd => rfl); (case hg => rfl); (case hr => first | (go_simp; done) | (go_simp; rfl)); intro g hg w1 hbox hb; have hge := Aside0.mk (Nat.le_of_eq hg.symm : w.heap.size ≤ g); clear hg; have HBX := Aside0.mk hbox; have HB := Aside0.mk hb; clear hbox hb))
  have HM := Aside0.mk (H.out.step HB.out)
  have c0 : w1.cell? ⟨R, 0, none⟩ = some (.int .i64 ag) := (blk_cell HM.out.g 0).trans rfl
  have c3 : w1.cell? ⟨R, 3, none⟩ = some (.slice (some ad) L.length c) := (blk_cell HM.out.g 3).trans rfl
  have hlt := blk_lt HM.out.g
  have kp : Aside0 (∀ w', Below w1.heap.size w1 w' → w'.cell? ⟨R, 0, none⟩ = some (.int .i64 ag) ∧ w'.cell? ⟨R, 3, none⟩ = some (.slice (some ad) L.length c)) := ⟨fun w' hb => ⟨(hb.cell (p := ⟨R, 0, none⟩) hlt).trans c0, (hb.cell (p := ⟨R, 3, none⟩) hlt).trans c3⟩⟩
  have hbD := Aside0.mk (below_drew1 (Below.refl w1.heap.size w1))
  have HC1 := Aside0.mk (Kd.C_below HC.out (below_step HB.out hbD.out))
  clear hlt
  go_region_held3 (fun w' => w'.cell? ⟨R, 0, none⟩ = some (.int .i64 ag) ∧ w'.cell? ⟨R, 3, none⟩ = some (.slice (some ad) L.length c)) (first | go_keep | exact kp.out _ hbD.out | exact kp.out _ (below_step hbD.out hb8)) ((go_at_call 35; refine (first_calls ag (some ad) c L k _ HC1.out Hc.out hl hfst.out).mono ?_; rintro e w8 ⟨rfl, hb8⟩))
  have hb9 := Aside0.mk (below_step hbD.out hb8)
  have HBX8 := Aside0.mk (blk_below HBX.out hb9.out)
  have hBT := Aside0.mk (below_step HB.out hb9.out)
  have HM8 := Aside0.mk (H.out.step hBT.out)
  clear c0 c3 kp hbD HC1 hb8 HM
  have c3 : w8.cell? ⟨R, 3, none⟩ = some (.slice (some ad) L.length c) := (blk_cell HM8.out.g 3).trans rfl
  obtain ⟨ad', e2, hy0, hy1, hy2⟩ := at_T32 (Kd.C_below HC.out hBT.out) (k : Int) (by omega) (by have := hK.out; omega)
  cases e2
  rw [hxr.out, Int.toNat_natCast] at hy0 hy1 hy2
  have hgR : Aside0 (g ≠ R) := ⟨by have := hge.out; have := hwR.out; omega⟩
  have hg8 := Aside0.mk (blk_lt HBX8.out)
  have h8R : Aside0 (w8.heap.size ≠ R) := ⟨by have := hBT.out.size; have := hwR.out; omega⟩
  have hbA := Aside0.mk (below_alloc (Below.refl w8.heap.size w8) (.cells #[.int .i64 x.f0, .int .i64 x.f1, .int .i64 x.f2] 32))
  go_wp2_with (first
    | (go_at_call 23; have hT := rdrop_calls (HM8.out.step hbA.out) x.f0 hl; refine hT.mono ?_; clear hT; rintro e w10 ⟨rfl, hz⟩; clear c3 hy0 hy1 hy2; obtain ⟨v', hRS, hF, hat⟩ := hz.out; have hRS := Aside0.mk hRS; have hF := Aside0.mk hF; have hX10 := Aside0.mk ((hF.out.blk w8.heap.size (blk_lt (blk_new w8 _)) h8R.out).trans (blk_new w8 _)); have hG10 := Aside0.mk ((hF.out.blk g (Nat.lt_of_lt_of_le hg8.out hbA.out.size) hgR.out).trans (blk_below HBX8.out hbA.out)); have d2 : w10.cell? ⟨R, 2, none⟩ = some (.int .i64 ct) := (blk_cell hRS.out.g 2).trans rfl; have z2 := blk_frozen hRS.out.g 2; have x0 := (blk_cell hX10.out 0).trans rfl; have x1 := (blk_cell hX10.out 1).trans rfl; have x2 := (blk_cell hX10.out 2).trans rfl; have hs0 := (blk_cell hG10.out 0).trans rfl; have hs1 := (blk_cell hG10.out 1).trans rfl; have hs2 := (blk_cell hG10.out 2).trans rfl; have hf0 := blk_frozen hG10.out 0; have hf1 := blk_frozen hG10.out 1; have hf2 := blk_frozen hG10.out 2; have n1 := hgR.out; have n2 := hgR.out.symm; have n3 := h8R.out; have n4 := h8R.out.symm; have hct := HCT.out))
  have hset : Fr (fun b => b = g) (w10.setCell ⟨R, 2, none⟩ (.int .i64 ct1)) ((((w10.setCell ⟨R, 2, none⟩ (.int .i64 ct1)).setCell ⟨g, 0, none⟩ (.int .i64 x.f0)).setCell ⟨g, 1, none⟩ (.int .i64 x.f1)).setCell ⟨g, 2, none⟩ (.int .i64 x.f2)) :=
    Fr.then_ (Fr.then_ (Fr.set _ g 0 _) (Fr.set _ g 1 _) (fun _ h => .inl h)) (Fr.set _ g 2 _) (fun _ h => .inl h)
  have hown : ∀ b, v'.ownBlock = some b → ¬ b = g := by
    intro b hb e
    rcases hat with rfl | hat
    · have := hvl.out b hb
      have := hge.out
      omega
    · have := hat b hb
      have := hbA.out.size
      have := hg8.out
      omega
  have hw9 := Aside0.mk (below_step hBT.out hbA.out)
  exact rtake_ret (x := x) rfl rfl (blk_put (blk_put (blk_put (blk_far hG10.out (p := ⟨R, 2, none⟩) n1 _) 0 _ rfl) 1 _ rfl) 2 _ rfl)
    ⟨rfl, ⟨v', (hRS.out.setCt ct1).keep hset (fun e => n1 e.symm) hown, Fr.then_ (Fr.then_ (Fr.then_ (Fr.of_below hw9.out) hF.out (fun _ h => .inl h)) (Fr.set w10 R 2 _) (fun _ h => .inl h)) hset (fun b hb => .inr (hb ▸ hge.out)), hat.imp id (fun h b hb => Nat.le_trans hw9.out.size (h b hb))⟩⟩
end
end Go.Proofs.Ytgffcbhkkjigfaa.Ln

namespace Go.Proofs.Ytgffcbhkkjigfaa.Ln
open Go.RowKit Go.Proofs.Ytgffcbhkkjigfaa.PBase Go.Proofs.Ytgffcbhkkjigfaa.Cat Go.Proofs.Ytgffcbhkkjigfaa.Heap Go.Proofs.YtgffcbhkkjigfaaW.PrintWords Go.Proofs.YtgffcbhkkjigfaaW.PrintLast Go.Proofs.YtgffcbhkkjigfaaW.PrintMore
set_option linter.unusedVariables false
theorem R_one (W : World) (id cl ct : Int) {b : Nat} (hb : b ≤ W.heap.size) : Kd.R k32 32 (W.alloc (.cells #[.int .i64 id, .int .i64 cl, .int .i64 ct] 32)) b (fun k => k = W.heap.size) (.slice (some ⟨W.heap.size, 0, none⟩) 1 1) [(⟨id, cl, ct⟩ : S32)] :=
  Kd.R_mono (Kd.R_tight2 rfl (Kd.R_lower (R_lit1 W ⟨id, cl, ct⟩) hb)) (fun k hk => Option.some.inj hk.1)
theorem R_reads1 {W : World} {b g : Nat} {ok : Nat → Prop} {x : S32} (h : Kd.R k32 32 W b ok (.slice (some ⟨g, 0, none⟩) 1 1) [x]) : Kd.C k32 W (some ⟨g, 0, none⟩) 1 [x] := by
  obtain ⟨A, c, e, _, hC⟩ := Kd.R_reads h
  cases e
  exact hC
/-- append(v, ys...), v the call's own: what is none of v's block stays. -/
theorem run_rows2 {W : World} {base : Nat} {ok : Nat → Prop} {v : Value} {xs : List S32} (ty : TypeId) (A : Option Addr) (m c : Nat) (ys : List S32) (HO : Kd.R k32 32 W base ok v xs) (HR : Kd.C k32 W A m ys) (hbase : base ≤ W.heap.size) (hl : (xs.length + m) * 24 ≤ 140737488355328) :
    ∃ v1 w1, (Builtin.append_ #[43, 43] ty #[v, .slice A m c]).run Try.prog W = .ok v1 w1 ∧ Kd.R k32 32 w1 base (fun _ => True) v1 (xs ++ ys) ∧ Below base W w1 ∧ Fr (fun k => v.ownBlock = some k) W w1 := by
  obtain ⟨i0, hi, hzz⟩ := Option.map_eq_some_iff.1 Cat.info32
  simp only [Prod.mk.injEq] at hzz
  obtain ⟨hz0, hz1, hz2⟩ := hzz
  have hyl : ys.length = m := HR.1
  have hown := own_of_R HO
  rcases A with _ | ad
  · have h0 : m = 0 := by
      rcases Nat.eq_zero_or_pos m with h0 | h0
      · exact h0
      · obtain ⟨ad, h, _⟩ := HR.2.2 h0
        cases h
    subst h0
    obtain rfl : ys = [] := List.eq_nil_of_length_eq_zero hyl
    refine ⟨v, W, ?_, by rw [List.append_nil]; exact Kd.R_mono HO (fun _ _ => trivial), Below.refl _ _, Fr.refl _ _⟩
    rcases hown.2 with ⟨rfl, hn⟩ | ⟨g, cap, cur, rfl, _, _, hnc, _⟩
    · simp [Builtin.append_, run_underlying Try.underlying43, sizeOf, typeInfo, hi, Builtin.lenOf, Builtin.firstCells]
    · simp [Builtin.append_, run_underlying Try.underlying43, sizeOf, typeInfo, hi, Builtin.lenOf, Builtin.firstCells, hnc, storeCells]
  · obtain ⟨v1, w1, hrun, h2, hg, _, _⟩ := run_append_own_at (P := Try.prog) W base 43 ty 32 i0 _ 3 24 Try.underlying43 hi hz0 hz1 hz2 rfl (by decide) v xs.length (flat xs) hown ad m c (flat ys) (by rw [flat_len, hyl]) (C_cells HR) flat_one (by simp only [maxLen]; omega) hl hbase
    refine ⟨v1, w1, hrun, R_of_own ?_, ⟨hg.os, hg.tape, hg.output, hg.size, fun k hk => hg.block k (Nat.lt_of_lt_of_le hk hbase) (fun he => by have := own_base hown k he.symm; omega)⟩, Fr.of_grown hg (fun k e => e)⟩
    rw [← flat_append, ← hyl, ← List.length_append] at h2
    exact h2
section
variable {ops : Array Oper} {o : Oper} {a : Act} {Q : Exit → Act → World → Prop} {K : Act → World → Prop}
theorem step_rows2 {W : World} (base : Nat) {ok : Nat → Prop} (hw : Region.wanted o (yielded ops a.tmps) = true) (s x : Operand) (ho : o.op = .call { callee := .builtin .append, args := #[s, x], argTypes := #[43, 43] })
    (v : Value) (xs : List S32) (A : Option Addr) (m c : Nat) (ys : List S32) (hs : a.eval s = v) (hx : a.eval x = .slice A m c) (HO : Kd.R k32 32 W base ok v xs) (HR : Kd.C k32 W A m ys) (hbase : base ≤ W.heap.size) (hl : (xs.length + m) * 24 ≤ 140737488355328)
    (h : ∀ v1 w1, Kd.R k32 32 w1 base (fun _ => True) v1 (xs ++ ys) → Below base W w1 → Fr (fun k => v.ownBlock = some k) W w1 → K (a.put o.dst v1) w1) :
    if Region.wanted o (yielded ops a.tmps) = true then Oper.wp Try.prog o a W K Q else K (a.put o.dst undef) W := by
  obtain ⟨v1, w1, hr, h1, h2, h3⟩ := run_rows2 o.type A m c ys HO HR hbase hl
  refine event_step hw ?_ (h v1 w1 h1 h2 h3)
  unfold execOp
  simp only [ho, resolve, invoke, builtin, Sem.run_bind, Sem.run_pure, Result.andThen_ok, List.map_toArray, List.map_cons, List.map_nil, hs, hx, hr]
end
section
variable {N : Nat} {w : World} {R : Nat} {v : Value} {ag rm ct : Int} {L : List S32}
theorem rput_end {W2 w4 : World} {L2 L3 : List S32} {A5 : Option Addr} {c5 n5 : Nat} (h : RS N W2 R v ag rm ct L) (hb : Below w.heap.size w W2) (hb4 : Below W2.heap.size W2 w4) (hV : Kd.R k32 32 w4 W2.heap.size (fun _ => True) (.slice A5 L2.length c5) L2) (hn : L2.length = n5) (hL : L2 = L3) :
    Aside0 (RGo N w R v (w4.setCell ⟨R, 3, none⟩ (.slice A5 n5 c5)) ag rm ct L3) := by
  subst hn hL
  refine ⟨_, h.put hb4 hV ct, ?_, .inr (fun b hb1 => Nat.le_trans hb.size (own_base (own_of_R hV) b hb1))⟩
  exact Fr.then_ (Fr.of_below (below_step hb hb4)) (Fr.set w4 R 3 _) (fun _ h => .inl h)
set_option maxHeartbeats 8000000 in
set_option maxRecDepth 100000 in
theorem rput_yes (h : RS N w R v ag rm ct L) (id cl : Int) (hc1 : 0 ≤ cl) (hc2 : cl < 8) (hp : place L id = -1) (hl : L.length ≤ 1000) (hr : (L.length : Int) < rm) :
    Calls Try.prog 20 #[.pointer (some ⟨R, 0, none⟩), .int .i64 id, .int .i64 cl] w fun e w' => e = .returned (.int .i64 0) ∧ Aside0 (RGo N w R v w' ag rm ct (L ++ [⟨id, cl, ct⟩])) := by
  have hf := rfind_calls h id (by omega)
  rw [hp] at hf
  obtain ⟨A, c, rfl, hc, hC⟩ := Kd.R_reads h.r
  have HC := Aside0.mk hC
  have HLL : Aside0 (L.length ≤ 1000) := ⟨hl⟩
  have H := Aside0.mk h
  clear h hC
  go_enter Try.func20, Try.ntmps20
  go_wp2_with (go_at_call 34; refine hf.mono ?_; rintro e w1 ⟨rfl, hb1⟩; clear hf)
  have HM := Aside0.mk (H.out.step hb1)
  have c1 : w1.cell? ⟨R, 1, none⟩ = some (.int .i64 rm) := (blk_cell HM.out.g 1).trans rfl
  have c3 : w1.cell? ⟨R, 3, none⟩ = some (.slice A L.length c) := (blk_cell HM.out.g 3).trans rfl
  go_region_held3 (fun w' => w'.cell? ⟨R, 3, none⟩ = some (.slice A L.length c) ∧ w'.cell? ⟨R, 1, none⟩ = some (.int .i64 rm)) (go_keep) (fail)
  have hbd := below_drew1 (Below.refl w1.heap.size w1)
  have HM1 := Aside0.mk (HM.out.step hbd)
  have hB1 := Aside0.mk (below_step hb1 hbd)
  clear c1 c3 HM hb1 hbd
  go_wp2
  generalize w1.drew = w5 at HM1 hB1 ⊢
  have c3 : w5.cell? ⟨R, 3, none⟩ = some (.slice A L.length c) := (blk_cell HM1.out.g 3).trans rfl
  have c2 : w5.cell? ⟨R, 2, none⟩ = some (.int .i64 ct) := (blk_cell HM1.out.g 2).trans rfl
  refine start_ (n := 19) (S := fun w' => w'.cell? ⟨R, 3, none⟩ = some (.slice A L.length c) ∧ w'.cell? ⟨R, 2, none⟩ = some (.int .i64 ct)) (ds := [18]) #[false, false, false, false, false, false, false, false, false, false, false, false, false, false, false, false, false, false, false] (by kernel_rfl) rfl rfl ⟨c3, c2⟩ (fun hHeld => ?_)
  have hb2 := below_drew1 (Below.refl w5.heap.size w5)
  have HM2 := Aside0.mk (HM1.out.step hb2)
  have hBw := Aside0.mk (below_step hB1.out hb2)
  generalize w5.drew = W2 at hHeld HM2 hBw ⊢
  clear c3 c2 hb2 HM1 hB1
  have HG2 := Aside0.mk HM2.out.g
  have HC2 := Aside0.mk (Kd.C_below HC.out hBw.out)
  have hB0 := Aside0.mk (Below.refl W2.heap.size W2)
  have hlt := blk_lt HM2.out.g
  have kp : Aside0 (∀ w', Below W2.heap.size W2 w' → w'.cell? ⟨R, 3, none⟩ = some (.slice A L.length c) ∧ w'.cell? ⟨R, 2, none⟩ = some (.int .i64 ct)) := ⟨fun w' hb => ⟨(hb.cell (p := ⟨R, 3, none⟩) hlt).trans hHeld.1, (hb.cell (p := ⟨R, 2, none⟩) hlt).trans hHeld.2⟩⟩
  clear hlt
  refine pure_ (i := 0) (N := some 30) (v := ?_) (a' := ?_) #[true, false, false, false, false, false, false, false, false, false, false, false, false, false, false, false, false, false, false] rfl rfl (by kernel_rfl) (fun _ _ _ h => h) (Or.inl ⟨by rfl, ?_⟩) ?_ ?_
  rotate_left
  · intro w'
    go_simp
    with_reducible rfl
  rotate_left
  · simp only [Act.put, List.setIfInBounds_toArray, List.set_cons_zero, List.set_cons_succ]
    rfl
  refine pure_ (i := 2) (N := some 32) (v := ?_) (a' := ?_) #[true, false, true, false, false, false, false, false, false, false, false, false, false, false, false, false, false, false, false] rfl rfl (by kernel_rfl) (fun _ _ _ h => h) (Or.inl ⟨by rfl, ?_⟩) ?_ ?_
  rotate_left
  · intro w'
    go_simp
    with_reducible rfl
  rotate_left
  · simp only [Act.put, List.setIfInBounds_toArray, List.set_cons_zero, List.set_cons_succ]
    rfl
  refine pure_ (i := 3) (N := some 33) (v := ?_) (a' := ?_) #[true, false, true, true, false, false, false, false, false, false, false, false, false, false, false, false, false, false, false] rfl rfl (by kernel_rfl) (fun _ _ _ h => h) (Or.inl ⟨by rfl, ?_⟩) ?_ ?_
  rotate_left
  · intro w'
    go_simp
    with_reducible rfl
  rotate_left
  · simp only [Act.put, List.setIfInBounds_toArray, List.set_cons_zero, List.set_cons_succ]
    rfl
  refine pure_ (i := 4) (N := some 34) (v := ?_) (a' := ?_) #[true, false, true, true, true, false, false, false, false, false, false, false, false, false, false, false, false, false, false] rfl rfl (by kernel_rfl) (fun _ _ _ h => h) (Or.inl ⟨by rfl, ?_⟩) ?_ ?_
  rotate_left
  · intro w'
    go_simp
    with_reducible rfl
  rotate_left
  · simp only [Act.put, List.setIfInBounds_toArray, List.set_cons_zero, List.set_cons_succ]
    rfl
  refine take_ (i := 5) (N := some 35) (v := ?_) (a' := ?_) #[true, false, true, true, true, true, false, false, false, false, false, false, false, false, false, false, false, false, false] rfl rfl (by kernel_rfl) (fun _ _ _ h => h) (Or.inl ⟨by rfl, ?_⟩) hHeld ?_ ?_
  rotate_left
  · rintro w' ⟨s0, s1⟩
    go_simp
    with_reducible rfl
  rotate_left
  · simp only [Act.put, List.setIfInBounds_toArray, List.set_cons_zero, List.set_cons_succ]
    rfl
  refine pure_ (i := 7) (N := some 37) (v := ?_) (a' := ?_) #[true, false, true, true, true, true, false, true, false, false, false, false, false, false, false, false, false, false, false] rfl rfl (by kernel_rfl) (fun _ _ _ h => h) (Or.inl ⟨by rfl, ?_⟩) ?_ ?_
  rotate_left
  · intro w'
    go_simp
    with_reducible rfl
  rotate_left
  · simp only [Act.put, List.setIfInBounds_toArray, List.set_cons_zero, List.set_cons_succ]
    rfl
  refine pure_ (i := 8) (N := some 38) (v := ?_) (a' := ?_) #[true, false, true, true, true, true, false, true, true, false, false, false, false, false, false, false, false, false, false] rfl rfl (by kernel_rfl) (fun _ _ _ h => h) (Or.inl ⟨by rfl, ?_⟩) ?_ ?_
  rotate_left
  · intro w'
    go_simp
    with_reducible rfl
  rotate_left
  · simp only [Act.put, List.setIfInBounds_toArray, List.set_cons_zero, List.set_cons_succ]
    rfl
  refine pure_ (i := 9) (N := some 39) (v := ?_) (a' := ?_) #[true, false, true, true, true, true, false, true, true, true, false, false, false, false, false, false, false, false, false] rfl rfl (by kernel_rfl) (fun _ _ _ h => h) (Or.inl ⟨by rfl, ?_⟩) ?_ ?_
  rotate_left
  · intro w'
    go_simp
    with_reducible rfl
  rotate_left
  · simp only [Act.put, List.setIfInBounds_toArray, List.set_cons_zero, List.set_cons_succ]
    rfl
  refine pure_ (i := 10) (N := some 40) (v := ?_) (a' := ?_) #[true, false, true, true, true, true, false, true, true, true, true, false, false, false, false, false, false, false, false] rfl rfl (by kernel_rfl) (fun _ _ _ h => h) (Or.inl ⟨by rfl, ?_⟩) ?_ ?_
  rotate_left
  · intro w'
    go_simp
    with_reducible rfl
  rotate_left
  · simp only [Act.put, List.setIfInBounds_toArray, List.set_cons_zero, List.set_cons_succ]
    rfl
  refine pure_ (i := 11) (N := some 41) (v := ?_) (a' := ?_) #[true, false, true, true, true, true, false, true, true, true, true, true, false, false, false, false, false, false, false] rfl rfl (by kernel_rfl) (fun _ _ _ h => h) (Or.inl ⟨by rfl, ?_⟩) ?_ ?_
  rotate_left
  · intro w'
    go_simp
    with_reducible rfl
  rotate_left
  · simp only [Act.put, List.setIfInBounds_toArray, List.set_cons_zero, List.set_cons_succ]
    rfl
  refine take_ (i := 12) (N := some 42) (v := ?_) (a' := ?_) #[true, false, true, true, true, true, false, true, true, true, true, true, true, false, false, false, false, false, false] rfl rfl (by kernel_rfl) (fun _ _ _ h => h) (Or.inl ⟨by rfl, ?_⟩) hHeld ?_ ?_
  rotate_left
  · rintro w' ⟨s0, s1⟩
    go_simp
    with_reducible rfl
  rotate_left
  · simp only [Act.put, List.setIfInBounds_toArray, List.set_cons_zero, List.set_cons_succ]
    rfl
  refine pure_ (i := 13) (N := some 43) (v := ?_) (a' := ?_) #[true, false, true, true, true, true, false, true, true, true, true, true, true, true, false, false, false, false, false] rfl rfl (by kernel_rfl) (fun _ _ _ h => h) (Or.inl ⟨by rfl, ?_⟩) ?_ ?_
  rotate_left
  · intro w'
    go_simp
    with_reducible rfl
  rotate_left
  · simp only [Act.put, List.setIfInBounds_toArray, List.set_cons_zero, List.set_cons_succ]
    rfl
  refine two_ (i := 1) (j := 14) (Ni := some 31) (Nj := some 44) #[true, true, true, true, true, true, false, true, true, true, true, true, true, true, false, false, false, false, false] #[true, false, true, true, true, true, false, true, true, true, true, true, true, true, true, false, false, false, false] rfl rfl rfl rfl (by kernel_rfl) (by decide) (by decide) (fun K hK => ?_) (fun K hK => ?_)
  · refine event_step (v := .slice (some ⟨W2.heap.size, 0, none⟩) 0 0) (w1 := W2.alloc (.cells #[] 32)) (by rfl) (by go_simp) ?_
    have hB1 := Aside0.mk (hB0.out.trans (below_lower (below_alloc (Below.refl W2.heap.size W2) (.cells #[] 32)) hB0.out.size))
    have hV1 := Aside0.mk (Kd.R_lower (R_lit0 W2) hB0.out.size)
    refine hK.out _ _ (kp.out _ hB1.out) (fun hHeld => ?_)
    clear hK K
    refine norm_ (a' := ?_) ?_ ?_
    rotate_left
    · show Act.put _ (some 31) _ = _
      simp only [Act.put, List.setIfInBounds_toArray, List.set_cons_zero, List.set_cons_succ]
      rfl
    generalize hq1 : W2.alloc (.cells #[] 32) = w11 at hB1 hHeld hV1 ⊢
    clear hq1
    refine two_ (i := 6) (j := 14) (Ni := some 36) (Nj := some 44) #[true, true, true, true, true, true, true, true, true, true, true, true, true, true, false, false, false, false, false] #[true, true, true, true, true, true, false, true, true, true, true, true, true, true, true, false, false, false, false] rfl rfl rfl rfl (by kernel_rfl) (by decide) (by decide) (fun K hK => ?_) (fun K hK => ?_)
    · refine step_rows2 (K := _) W2.heap.size (by rfl) (.tmp 31) (.tmp 35) (by rfl) (.slice (some ⟨W2.heap.size, 0, none⟩) 0 0) [] A L.length c L (by rfl) (by rfl) hV1.out (Kd.C_below HC2.out hB1.out) hB1.out.size (by simp only [List.length_nil]; have := HLL.out; omega) ?_
      intro v2 w12 hv2 hb2 hf2
      have hB2 := Aside0.mk (hB1.out.trans hb2)
      have hV2 := Aside0.mk hv2
      refine hK.out _ _ (kp.out _ hB2.out) (fun hHeld => ?_)
      clear hK K
      refine norm_ (a' := ?_) ?_ ?_
      rotate_left
      · show Act.put _ (some 36) _ = _
        simp only [Act.put, List.setIfInBounds_toArray, List.set_cons_zero, List.set_cons_succ]
        rfl
      clear hv2 hb2 hf2
      refine one_ (i := 14) (N := some 44) #[true, true, true, true, true, true, true, true, true, true, true, true, true, true, true, false, false, false, false] rfl rfl (by kernel_rfl) (by decide) (fun K hK => ?_)
      refine event_step (v := .slice (some ⟨w12.heap.size, 0, none⟩) 1 1) (w1 := w12.alloc (.cells #[.int .i64 id, .int .i64 cl, .int .i64 ct] 32)) (by rfl) (by go_simp) ?_
      have hB3 := Aside0.mk (hB2.out.trans (below_lower (below_alloc (Below.refl w12.heap.size w12) (.cells #[.int .i64 id, .int .i64 cl, .int .i64 ct] 32)) hB2.out.size))
      have hX3 := Aside0.mk (R_one w12 id cl ct hB2.out.size)
      have hV3 := Aside0.mk (Kd.R_below hV2.out (below_alloc (Below.refl _ _) (.cells #[.int .i64 id, .int .i64 cl, .int .i64 ct] 32)))
      refine hK.out _ _ (kp.out _ hB3.out) (fun hHeld => ?_)
      clear hK K
      refine norm_ (a' := ?_) ?_ ?_
      rotate_left
      · show Act.put _ (some 44) _ = _
        simp only [Act.put, List.setIfInBounds_toArray, List.set_cons_zero, List.set_cons_succ]
        rfl
      generalize hq3 : w12.alloc (.cells #[.int .i64 id, .int .i64 cl, .int .i64 ct] 32) = w13 at hB3 hHeld hX3 hV3 ⊢
      clear hq3
      refine one_ (i := 15) (N := some 45) #[true, true, true, true, true, true, true, true, true, true, true, true, true, true, true, true, false, false, false] rfl rfl (by kernel_rfl) (by decide) (fun K hK => ?_)
      refine step_rows2 (K := _) W2.heap.size (by rfl) (.tmp 36) (.tmp 44) (by rfl) v2 ([] ++ L) (some ⟨w12.heap.size, 0, none⟩) 1 1 [(⟨id, cl, ct⟩ : S32)] (by rfl) (by rfl) hV3.out (R_reads1 hX3.out) hB3.out.size (by rw [List.nil_append]; have := HLL.out; omega) ?_
      intro v4 w14 hv4 hb4 hf4
      have hB4 := Aside0.mk (hB3.out.trans hb4)
      have hV4 := Aside0.mk hv4
      refine hK.out _ _ (kp.out _ hB4.out) (fun hHeld => ?_)
      clear hK K
      refine norm_ (a' := ?_) ?_ ?_
      rotate_left
      · show Act.put _ (some 45) _ = _
        simp only [Act.put, List.setIfInBounds_toArray, List.set_cons_zero, List.set_cons_succ]
        rfl
      clear hv4 hb4 hf4
      refine pure_ (i := 16) (N := some 46) (v := ?_) (a' := ?_) #[true, true, true, true, true, true, true, true, true, true, true, true, true, true, true, true, true, false, false] rfl rfl (by kernel_rfl) (fun _ _ _ h => h) (Or.inl ⟨by rfl, ?_⟩) ?_ ?_
      rotate_left
      · intro w'
        go_simp
        with_reducible rfl
      rotate_left
      · simp only [Act.put, List.setIfInBounds_toArray, List.set_cons_zero, List.set_cons_succ]
        rfl
      refine pure_ (i := 17) (N := some 47) (v := ?_) (a' := ?_) #[true, true, true, true, true, true, true, true, true, true, true, true, true, true, true, true, true, true, false] rfl rfl (by kernel_rfl) (fun _ _ _ h => h) (Or.inl ⟨by rfl, ?_⟩) ?_ ?_
      rotate_left
      · intro w'
        go_simp
        with_reducible rfl
      rotate_left
      · simp only [Act.put, List.setIfInBounds_toArray, List.set_cons_zero, List.set_cons_succ]
        rfl
      refine last_ (i := 18) (N := none) #[true, true, true, true, true, true, true, true, true, true, true, true, true, true, true, true, true, true, true] rfl rfl (by kernel_rfl) (by decide) (fun K hK => ?_)
      obtain ⟨A5, c5, rfl⟩ := Kd.R_slice hV4.out
      have hB9 := Aside0.mk (blk_below HG2.out hB4.out)
      have hs : w14.cell? ⟨R, 3, none⟩ = some (.slice A L.length c) := (blk_cell hB9.out 3).trans rfl
      have hfs := blk_frozen hB9.out 3
      refine skip_ (w1 := ?_) (by rfl) rfl ?_ ?_
      rotate_left
      · go_simp
        rfl
      refine hK.out _ _ ?_
      clear hK K
      refine done_ (by kernel_rfl) ?_
      go_wp2
      go_ret
      exact ⟨rfl, rput_end HM2.out hBw.out hB4.out hV4.out (by simp) (by simp)⟩
    · refine event_step (v := .slice (some ⟨w11.heap.size, 0, none⟩) 1 1) (w1 := w11.alloc (.cells #[.int .i64 id, .int .i64 cl, .int .i64 ct] 32)) (by rfl) (by go_simp) ?_
      have hB5 := Aside0.mk (hB1.out.trans (below_lower (below_alloc (Below.refl w11.heap.size w11) (.cells #[.int .i64 id, .int .i64 cl, .int .i64 ct] 32)) hB1.out.size))
      have hX5 := Aside0.mk (R_one w11 id cl ct hB1.out.size)
      have hN5 : Aside0 (W2.heap.size ≠ w11.heap.size) := ⟨by have := own_lt (own_of_R hV1.out) _ rfl; simp only at this; omega⟩
      have hV5 := Aside0.mk (Kd.R_below hV1.out (below_alloc (Below.refl _ _) (.cells #[.int .i64 id, .int .i64 cl, .int .i64 ct] 32)))
      refine hK.out _ _ (kp.out _ hB5.out) (fun hHeld => ?_)
      clear hK K
      refine norm_ (a' := ?_) ?_ ?_
      rotate_left
      · show Act.put _ (some 44) _ = _
        simp only [Act.put, List.setIfInBounds_toArray, List.set_cons_zero, List.set_cons_succ]
        rfl
      generalize hq5 : w11.alloc (.cells #[.int .i64 id, .int .i64 cl, .int .i64 ct] 32) = w15 at hB5 hHeld hX5 hV5 ⊢
      clear hq5
      refine one_ (i := 6) (N := some 36) #[true, true, true, true, true, true, true, true, true, true, true, true, true, true, true, false, false, false, false] rfl rfl (by kernel_rfl) (by decide) (fun K hK => ?_)
      refine step_rows2 (K := _) W2.heap.size (by rfl) (.tmp 31) (.tmp 35) (by rfl) (.slice (some ⟨W2.heap.size, 0, none⟩) 0 0) [] A L.length c L (by rfl) (by rfl) hV5.out (Kd.C_below HC2.out hB5.out) hB5.out.size (by simp only [List.length_nil]; have := HLL.out; omega) ?_
      intro v6 w16 hv6 hb6 hf6
      have hB6 := Aside0.mk (hB5.out.trans hb6)
      have hV6 := Aside0.mk hv6
      have hX6 := Aside0.mk (Kd.R_kept hX5.out (S := fun k => Value.ownBlock (.slice (some ⟨W2.heap.size, 0, none⟩) 0 0) = some k) ⟨hf6.size, fun i hi hn => hf6.blk i hi hn⟩ (fun k hk e => hN5.out (Option.some.inj (e.trans (congrArg some hk)))))
      refine hK.out _ _ (kp.out _ hB6.out) (fun hHeld => ?_)
      clear hK K
      refine norm_ (a' := ?_) ?_ ?_
      rotate_left
      · show Act.put _ (some 36) _ = _
        simp only [Act.put, List.setIfInBounds_toArray, List.set_cons_zero, List.set_cons_succ]
        rfl
      clear hv6 hb6 hf6
      refine one_ (i := 15) (N := some 45) #[true, true, true, true, true, true, true, true, true, true, true, true, true, true, true, true, false, false, false] rfl rfl (by kernel_rfl) (by decide) (fun K hK => ?_)
      refine step_rows2 (K := _) W2.heap.size (by rfl) (.tmp 36) (.tmp 44) (by rfl) v6 ([] ++ L) (some ⟨w11.heap.size, 0, none⟩) 1 1 [(⟨id, cl, ct⟩ : S32)] (by rfl) (by rfl) hV6.out (R_reads1 hX6.out) hB6.out.size (by rw [List.nil_append]; have := HLL.out; omega) ?_
      intro v7 w17 hv7 hb7 hf7
      have hB7 := Aside0.mk (hB6.out.trans hb7)
      have hV7 := Aside0.mk hv7
      refine hK.out _ _ (kp.out _ hB7.out) (fun hHeld => ?_)
      clear hK K
      refine norm_ (a' := ?_) ?_ ?_
      rotate_left
      · show Act.put _ (some 45) _ = _
        simp only [Act.put, List.setIfInBounds_toArray, List.set_cons_zero, List.set_cons_succ]
        rfl
      clear hv7 hb7 hf7
      refine pure_ (i := 16) (N := some 46) (v := ?_) (a' := ?_) #[true, true, true, true, true, true, true, true, true, true, true, true, true, true, true, true, true, false, false] rfl rfl (by kernel_rfl) (fun _ _ _ h => h) (Or.inl ⟨by rfl, ?_⟩) ?_ ?_
      rotate_left
      · intro w'
        go_simp
        with_reducible rfl
      rotate_left
      · simp only [Act.put, List.setIfInBounds_toArray, List.set_cons_zero, List.set_cons_succ]
        rfl
      refine pure_ (i := 17) (N := some 47) (v := ?_) (a' := ?_) #[true, true, true, true, true, true, true, true, true, true, true, true, true, true, true, true, true, true, false] rfl rfl (by kernel_rfl) (fun _ _ _ h => h) (Or.inl ⟨by rfl, ?_⟩) ?_ ?_
      rotate_left
      · intro w'
        go_simp
        with_reducible rfl
      rotate_left
      · simp only [Act.put, List.setIfInBounds_toArray, List.set_cons_zero, List.set_cons_succ]
        rfl
      refine last_ (i := 18) (N := none) #[true, true, true, true, true, true, true, true, true, true, true, true, true, true, true, true, true, true, true] rfl rfl (by kernel_rfl) (by decide) (fun K hK => ?_)
      obtain ⟨A5, c5, rfl⟩ := Kd.R_slice hV7.out
      have hB9 := Aside0.mk (blk_below HG2.out hB7.out)
      have hs : w17.cell? ⟨R, 3, none⟩ = some (.slice A L.length c) := (blk_cell hB9.out 3).trans rfl
      have hfs := blk_frozen hB9.out 3
      refine skip_ (w1 := ?_) (by rfl) rfl ?_ ?_
      rotate_left
      · go_simp
        rfl
      refine hK.out _ _ ?_
      clear hK K
      refine done_ (by kernel_rfl) ?_
      go_wp2
      go_ret
      exact ⟨rfl, rput_end HM2.out hBw.out hB7.out hV7.out (by simp) (by simp)⟩
  · refine event_step (v := .slice (some ⟨W2.heap.size, 0, none⟩) 1 1) (w1 := W2.alloc (.cells #[.int .i64 id, .int .i64 cl, .int .i64 ct] 32)) (by rfl) (by go_simp) ?_
    have hB8 := Aside0.mk (hB0.out.trans (below_lower (below_alloc (Below.refl W2.heap.size W2) (.cells #[.int .i64 id, .int .i64 cl, .int .i64 ct] 32)) hB0.out.size))
    have hX8 := Aside0.mk (R_one W2 id cl ct hB0.out.size)
    refine hK.out _ _ (kp.out _ hB8.out) (fun hHeld => ?_)
    clear hK K
    refine norm_ (a' := ?_) ?_ ?_
    rotate_left
    · show Act.put _ (some 44) _ = _
      simp only [Act.put, List.setIfInBounds_toArray, List.set_cons_zero, List.set_cons_succ]
      rfl
    generalize hq8 : W2.alloc (.cells #[.int .i64 id, .int .i64 cl, .int .i64 ct] 32) = w18 at hB8 hHeld hX8 ⊢
    clear hq8
    refine one_ (i := 1) (N := some 31) #[true, true, true, true, true, true, false, true, true, true, true, true, true, true, true, false, false, false, false] rfl rfl (by kernel_rfl) (by decide) (fun K hK => ?_)
    refine event_step (v := .slice (some ⟨w18.heap.size, 0, none⟩) 0 0) (w1 := w18.alloc (.cells #[] 32)) (by rfl) (by go_simp) ?_
    have hB9 := Aside0.mk (hB8.out.trans (below_lower (below_alloc (Below.refl w18.heap.size w18) (.cells #[] 32)) hB8.out.size))
    have hV9 := Aside0.mk (Kd.R_lower (R_lit0 w18) hB8.out.size)
    have hN9 : Aside0 (w18.heap.size ≠ W2.heap.size) := ⟨by have := own_lt (own_of_R hX8.out) _ rfl; simp only at this; omega⟩
    have hX9 := Aside0.mk (Kd.R_below hX8.out (below_alloc (Below.refl _ _) (.cells #[] 32)))
    refine hK.out _ _ (kp.out _ hB9.out) (fun hHeld => ?_)
    clear hK K
    refine norm_ (a' := ?_) ?_ ?_
    rotate_left
    · show Act.put _ (some 31) _ = _
      simp only [Act.put, List.setIfInBounds_toArray, List.set_cons_zero, List.set_cons_succ]
      rfl
    generalize hq9 : w18.alloc (.cells #[] 32) = w19 at hB9 hHeld hV9 hX9 ⊢
    clear hq9
    refine one_ (i := 6) (N := some 36) #[true, true, true, true, true, true, true, true, true, true, true, true, true, true, true, false, false, false, false] rfl rfl (by kernel_rfl) (by decide) (fun K hK => ?_)
    refine step_rows2 (K := _) W2.heap.size (by rfl) (.tmp 31) (.tmp 35) (by rfl) (.slice (some ⟨w18.heap.size, 0, none⟩) 0 0) [] A L.length c L (by rfl) (by rfl) hV9.out (Kd.C_below HC2.out hB9.out) hB9.out.size (by simp only [List.length_nil]; have := HLL.out; omega) ?_
    intro v10 w20 hv10 hb10 hf10
    have hB10 := Aside0.mk (hB9.out.trans hb10)
    have hV10 := Aside0.mk hv10
    have hX10 := Aside0.mk (Kd.R_kept hX9.out (S := fun k => Value.ownBlock (.slice (some ⟨w18.heap.size, 0, none⟩) 0 0) = some k) ⟨hf10.size, fun i hi hn => hf10.blk i hi hn⟩ (fun k hk e => hN9.out (Option.some.inj (e.trans (congrArg some hk)))))
    refine hK.out _ _ (kp.out _ hB10.out) (fun hHeld => ?_)
    clear hK K
    refine norm_ (a' := ?_) ?_ ?_
    rotate_left
    · show Act.put _ (some 36) _ = _
      simp only [Act.put, List.setIfInBounds_toArray, List.set_cons_zero, List.set_cons_succ]
      rfl
    clear hv10 hb10 hf10
    refine one_ (i := 15) (N := some 45) #[true, true, true, true, true, true, true, true, true, true, true, true, true, true, true, true, false, false, false] rfl rfl (by kernel_rfl) (by decide) (fun K hK => ?_)
    refine step_rows2 (K := _) W2.heap.size (by rfl) (.tmp 36) (.tmp 44) (by rfl) v10 ([] ++ L) (some ⟨W2.heap.size, 0, none⟩) 1 1 [(⟨id, cl, ct⟩ : S32)] (by rfl) (by rfl) hV10.out (R_reads1 hX10.out) hB10.out.size (by rw [List.nil_append]; have := HLL.out; omega) ?_
    intro v11 w21 hv11 hb11 hf11
    have hB11 := Aside0.mk (hB10.out.trans hb11)
    have hV11 := Aside0.mk hv11
    refine hK.out _ _ (kp.out _ hB11.out) (fun hHeld => ?_)
    clear hK K
    refine norm_ (a' := ?_) ?_ ?_
    rotate_left
    · show Act.put _ (some 45) _ = _
      simp only [Act.put, List.setIfInBounds_toArray, List.set_cons_zero, List.set_cons_succ]
      rfl
    clear hv11 hb11 hf11
    refine pure_ (i := 16) (N := some 46) (v := ?_) (a' := ?_) #[true, true, true, true, true, true, true, true, true, true, true, true, true, true, true, true, true, false, false] rfl rfl (by kernel_rfl) (fun _ _ _ h => h) (Or.inl ⟨by rfl, ?_⟩) ?_ ?_
    rotate_left
    · intro w'
      go_simp
      with_reducible rfl
    rotate_left
    · simp only [Act.put, List.setIfInBounds_toArray, List.set_cons_zero, List.set_cons_succ]
      rfl
    refine pure_ (i := 17) (N := some 47) (v := ?_) (a' := ?_) #[true, true, true, true, true, true, true, true, true, true, true, true, true, true, true, true, true, true, false] rfl rfl (by kernel_rfl) (fun _ _ _ h => h) (Or.inl ⟨by rfl, ?_⟩) ?_ ?_
    rotate_left
    · intro w'
      go_simp
      with_reducible rfl
    rotate_left
    · simp only [Act.put, List.setIfInBounds_toArray, List.set_cons_zero, List.set_cons_succ]
      rfl
    refine last_ (i := 18) (N := none) #[true, true, true, true, true, true, true, true, true, true, true, true, true, true, true, true, true, true, true] rfl rfl (by kernel_rfl) (by decide) (fun K hK => ?_)
    obtain ⟨A5, c5, rfl⟩ := Kd.R_slice hV11.out
    have hB9 := Aside0.mk (blk_below HG2.out hB11.out)
    have hs : w21.cell? ⟨R, 3, none⟩ = some (.slice A L.length c) := (blk_cell hB9.out 3).trans rfl
    have hfs := blk_frozen hB9.out 3
    refine skip_ (w1 := ?_) (by rfl) rfl ?_ ?_
    rotate_left
    · go_simp
      rfl
    refine hK.out _ _ ?_
    clear hK K
    refine done_ (by kernel_rfl) ?_
    go_wp2
    go_ret
    exact ⟨rfl, rput_end HM2.out hBw.out hB11.out hV11.out (by simp) (by simp)⟩
set_option maxHeartbeats 4000000 in
set_option maxRecDepth 100000 in
theorem rput_arg (h : RS N w R v ag rm ct L) (id cl : Int) (hc : cl < 0 ∨ 8 ≤ cl) :
    Calls Try.prog 20 #[.pointer (some ⟨R, 0, none⟩), .int .i64 id, .int .i64 cl] w fun e w' => e = .returned (.int .i64 1) ∧ Aside0 (RGo N w R v w' ag rm ct L) := by
  have H := Aside0.mk h
  clear h
  by_cases c1 : cl < 0
  · clear hc
    go_enter Try.func20, Try.ntmps20
    go_wp2
    go_ret
    exact ⟨rfl, ⟨v, H.out, Fr.refl _ _, .inl rfl⟩⟩
  · have c2 : 8 ≤ cl := by omega
    clear hc
    go_enter Try.func20, Try.ntmps20
    go_wp2
    go_ret
    exact ⟨rfl, ⟨v, H.out, Fr.refl _ _, .inl rfl⟩⟩
set_option maxHeartbeats 4000000 in
set_option maxRecDepth 100000 in
theorem rput_twice (h : RS N w R v ag rm ct L) (id cl : Int) (hc1 : 0 ≤ cl) (hc2 : cl < 8) (k : Nat) (hp : place L id = (k : Int)) (hl : L.length ≤ 1000) :
    Calls Try.prog 20 #[.pointer (some ⟨R, 0, none⟩), .int .i64 id, .int .i64 cl] w fun e w' => e = .returned (.int .i64 8) ∧ Aside0 (RGo N w R v w' ag rm ct L) := by
  have hf := rfind_calls h id (by omega)
  rw [hp] at hf
  have H := Aside0.mk h
  have hk : 0 ≤ (k : Int) := by omega
  clear h
  go_enter Try.func20, Try.ntmps20
  go_wp2_with (go_at_call 34; refine hf.mono ?_; rintro e w1 ⟨rfl, hb1⟩; clear hf)
  go_ret
  exact ⟨rfl, ⟨v, H.out.step hb1, Fr.of_below hb1, .inl rfl⟩⟩
set_option maxHeartbeats 4000000 in
set_option maxRecDepth 100000 in
theorem rput_full (h : RS N w R v ag rm ct L) (id cl : Int) (hc1 : 0 ≤ cl) (hc2 : cl < 8) (hp : place L id = -1) (hl : L.length ≤ 1000) (hr : rm ≤ (L.length : Int)) :
    Calls Try.prog 20 #[.pointer (some ⟨R, 0, none⟩), .int .i64 id, .int .i64 cl] w fun e w' => e = .returned (.int .i64 10) ∧ Aside0 (RGo N w R v w' ag rm ct L) := by
  have hf := rfind_calls h id (by omega)
  rw [hp] at hf
  obtain ⟨A, c, rfl, hc, hC⟩ := Kd.R_reads h.r
  have H := Aside0.mk h
  clear h hC
  go_enter Try.func20, Try.ntmps20
  go_wp2_with (go_at_call 34; refine hf.mono ?_; rintro e w1 ⟨rfl, hb1⟩; clear hf)
  have HM := Aside0.mk (H.out.step hb1)
  have c1 : w1.cell? ⟨R, 1, none⟩ = some (.int .i64 rm) := (blk_cell HM.out.g 1).trans rfl
  have c3 : w1.cell? ⟨R, 3, none⟩ = some (.slice A L.length c) := (blk_cell HM.out.g 3).trans rfl
  go_region_held3 (fun w' => w'.cell? ⟨R, 3, none⟩ = some (.slice A L.length c) ∧ w'.cell? ⟨R, 1, none⟩ = some (.int .i64 rm)) (go_keep) (fail)
  have hbd := below_drew1 (Below.refl w1.heap.size w1)
  go_wp2
  go_ret
  exact ⟨rfl, ⟨_, HM.out.step hbd, Fr.of_below (below_step hb1 hbd), .inl rfl⟩⟩
theorem rput_calls (h : RS N w R v ag rm ct L) (id cl : Int) (hl : L.length ≤ 1000) :
    Calls Try.prog 20 #[.pointer (some ⟨R, 0, none⟩), .int .i64 id, .int .i64 cl] w fun e w' => e = .returned (.int .i64 (putE L rm id cl)) ∧ Aside0 (RGo N w R v w' ag rm ct (rputL rm ct L id cl)) := by
  unfold rputL
  by_cases c1 : cl < 0 ∨ 8 ≤ cl
  · have e : putE L rm id cl = 1 := by unfold putE; rw [if_pos c1]
    rw [e, if_neg (by decide)]
    exact rput_arg h id cl c1
  · rcases place_cases L id with ⟨h1, h2⟩ | ⟨k, h1, h2, h3⟩
    · by_cases c3 : rm ≤ (L.length : Int)
      · have e : putE L rm id cl = 10 := by unfold putE; rw [if_neg c1, if_neg (by omega), if_pos c3]
        rw [e, if_neg (by decide)]
        exact rput_full h id cl (by omega) (by omega) h1 hl c3
      · have e : putE L rm id cl = 0 := by unfold putE; rw [if_neg c1, if_neg (by omega), if_neg c3]
        rw [e, if_pos rfl]
        exact rput_yes h id cl (by omega) (by omega) h1 hl (by omega)
    · have e : putE L rm id cl = 8 := by unfold putE; rw [if_neg c1, if_pos (by omega)]
      rw [e, if_neg (by decide)]
      exact rput_twice h id cl (by omega) (by omega) k h2 hl
end
end Go.Proofs.Ytgffcbhkkjigfaa.Ln
