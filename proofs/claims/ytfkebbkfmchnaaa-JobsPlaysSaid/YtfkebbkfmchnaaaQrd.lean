/- The reference's Drop as a call. Conditions: the queue lies in memory as told. -/
import Derived.Test.YtfkebbkfmchnaaaQrq
import Derived.Test.YtfkebbkfmchnaaaQrp
namespace Go.Proofs.Ytfkebbkfmchnaaa.Ln
open Go.RowKit Go.Proofs.Ytfkebbkfmchnaaa.PBase Go.Proofs.Ytfkebbkfmchnaaa.PRef Go.Proofs.Ytfkebbkfmchnaaa.Cat Go.Proofs.Ytfkebbkfmchnaaa.Heap Go.Proofs.YtfkebbkfmchnaaaW.PrintWords Go.Proofs.YtfkebbkfmchnaaaW.PrintLast Go.Proofs.YtfkebbkfmchnaaaW.PrintMore
set_option linter.unusedVariables false
theorem R_lit0 (W : World) : Kd.R k77 77 (W.alloc (.cells #[] 77)) W.heap.size (fun _ => True) (.slice (some ⟨W.heap.size, 0, none⟩) 0 0) [] := by
  refine ⟨fun _ _ => trivial, OwnRow.lit W W.heap.size (inner := flat []) ?_ (Nat.le_refl _) (by simp)⟩
  exact reps_flat (fun x => k77_mkM _ _ _ x) []
theorem below_lower {b b2 : Nat} {W W1 : World} (h : Below b W W1) (hb : b2 ≤ b) : Below b2 W W1 := ⟨h.os, h.tape, h.output, h.size, fun k hk => h.block k (Nat.lt_of_lt_of_le hk hb)⟩
section
variable {N : Nat} {w : World} {R : RK} {v : Value} {ag rm ct : Int} {L : List S77}
/-- Where a call leaves the reference's queue: a new row or the same. -/
def RGo (N : Nat) (w : World) (R : RK) (v : Value) (w' : World) (ag rm ct : Int) (L : List S77) : Prop := ∃ v', RS N w' R v' ag rm ct L ∧ Fr (fun b => b = R) w w' ∧ (v' = v ∨ ∀ b, v'.ownBlock = some b → w.heap.size ≤ b)
theorem RS.put {w1 : World} (h : RS N w R v ag rm ct L) (hb : Below w.heap.size w w1) {v' : Value} {L' : List S77} (hR : Kd.R k77 77 w1 w.heap.size (fun _ => True) v' L') (ct1 : Int) : RS N (w1.setCell ⟨R, 3, none⟩ v') R v' ag rm ct L' := by
  have hlt := blk_lt h.g
  have hg := RK.s3 (blk_below h.g hb) v'
  refine ⟨hg, ?_, h.nr⟩
  have h2 : Kd.R k77 77 w1 w.heap.size (fun k => v'.ownBlock = some k ∧ k ≠ R) v' L' := Kd.R_mono (Kd.R_tight2 rfl (Kd.R_bound hR)) (fun k hk => ⟨hk.1.symm, by have := hk.2.2.1; omega⟩)
  have hN : N ≤ w.heap.size := by have := h.nr; omega
  have h3 := Kd.R_lower h2 hN
  exact Kd.R_kept h3 (S := fun k => k = R) ⟨by simp [World.setCell], fun i hi hn => Below.heap_setCell w1 ⟨R, 3, none⟩ v' i hn⟩ (fun k hk => hk.2)
set_option maxHeartbeats 4000000 in
set_option maxRecDepth 100000 in
theorem rdrop_yes (h : RS N w R v ag rm ct L) (id : Int) (k : Nat) (hk : k < L.length) (hp : place L id = (k : Int)) (hl : L.length ≤ 1000) :
    Calls Try.prog 51 #[.pointer (some ⟨R, 0, none⟩), .int .i64 id] w fun e w' => e = .returned (.bool true) ∧ Aside0 (RGo N w R v w' ag rm ct (L.take k ++ L.drop (k + 1))) := by
  have hf := fun (W : World) (hb : Below w.heap.size w W) => rfind_calls (h.step hb) id (by omega)
  rw [hp] at hf
  have hf := hf w (Below.refl _ _)
  obtain ⟨A, c, rfl, hc, hC⟩ := Kd.R_reads h.r
  have HC := Aside0.mk hC
  obtain ⟨j, hj⟩ : ∃ j : Int, ((k + 1 : Nat) : Int) = j := ⟨_, rfl⟩
  have hjw : IntKind.i64.wrap ((k : Int) + 1) = j := by rw [i64_w]; unfold wrap64; omega
  have hjw2 : IntKind.i64.wrap j = j := by clear hjw; rw [i64_w]; unfold wrap64; omega
  obtain ⟨i0, hi0, hzz⟩ := Option.map_eq_some_iff.1 Cat.info77
  simp only [Prod.mk.injEq] at hzz
  have hsz0 := hzz.2.1
  have q1 := cut_to (P := Try.prog) 63 77 .i64 Try.underlying63 hi0 A L.length c (k : Int) (by omega) (by omega) hc
  have q2 := cut_from (P := Try.prog) 63 77 .i64 Try.underlying63 hi0 3 hsz0 A L.length c j (by omega) (by omega)
  rw [Int.toNat_natCast] at q1
  obtain ⟨A4, hA4⟩ : ∃ A4, A4 = (if c = j.toNat then A else A.map (·.add (j.toNat * 3))) := ⟨_, rfl⟩
  rw [← hA4] at q2
  have HJ := Aside0.mk hj
  have HLL : Aside0 (L.length ≤ 1000 ∧ k < L.length ∧ j.toNat = k + 1) := ⟨⟨hl, hk, by omega⟩⟩
  have hk0 : ¬ (k : Int) < 0 := by omega
  have hk1 : 0 ≤ (k : Int) := by omega
  have hk2 : (k : Int) ≤ (L.length : Int) := by omega
  have hj0 : 0 ≤ j := by omega
  have hj2 : j ≤ (L.length : Int) := by omega
  have H := Aside0.mk h
  have HA4 := Aside0.mk hA4
  have Hc := Aside0.mk hc
  clear h hC hj hA4 hzz hsz0 hi0 hc
  have hk9 := True.intro
  go_enter Try.func51, Try.ntmps51
  go_wp2_with (go_at_call 62; refine hf.mono ?_; rintro e w1 ⟨rfl, hb1⟩; clear hf)
  have HM := Aside0.mk (H.out.step hb1)
  have c3 : w1.cell? ⟨R, 3, none⟩ = some (.slice A L.length c) := (blk_cell HM.out.g 3).trans (RK.c3 _ _ _ _ _)
  refine start_ (n := 20) (S := fun w' => w'.cell? ⟨R, 3, none⟩ = some (.slice A L.length c)) (ds := [19]) #[false, false, false, false, false, false, false, false, false, false, false, false, false, false, false, false, false, false, false, false] (by kernel_rfl) rfl rfl c3 (fun hHeld => ?_)
  have hb2 := below_drew1 (Below.refl w1.heap.size w1)
  have HM2 := Aside0.mk (HM.out.step hb2)
  have hB2 := Aside0.mk (below_step hb1 hb2)
  generalize w1.drew = W2 at hHeld HM2 hB2 ⊢
  clear c3 hb2 HM hb1
  have HS2 := Aside0.mk hHeld
  have HG2 := Aside0.mk HM2.out.g
  have HR2 : Aside0 (R < W2.heap.size) := ⟨blk_lt HM2.out.g⟩
  have HC2 := Aside0.mk (Kd.C_below HC.out hB2.out)
  have hbA := Aside0.mk (below_alloc (Below.refl W2.heap.size W2) (.cells #[] 77))
  have HCT : Aside0 (Kd.C k77 (W2.alloc (.cells #[] 77)) A k (L.take k)) := ⟨by have h := Kd.C_take (m := k) (Kd.C_below HC2.out hbA.out) (by have := HLL.out; omega); rw [List.length_take, Nat.min_eq_left (by have := HLL.out; omega)] at h; exact h⟩
  have HCD : Aside0 (Kd.C k77 W2 A4 (L.length - j.toNat) (L.drop j.toNat)) := ⟨by rw [HA4.out]; have h := Kd.C_drop (m := j.toNat) (c := c) HC2.out (by have := HLL.out; omega) Hc.out; rw [List.length_drop] at h; exact h⟩
  refine pure_ (i := 0) (N := some 11) (v := ?_) (a' := ?_) #[true, false, false, false, false, false, false, false, false, false, false, false, false, false, false, false, false, false, false, false] rfl rfl (by kernel_rfl) (fun _ _ _ h => h) (Or.inl ⟨by rfl, ?_⟩) ?_ ?_
  rotate_left
  · intro w'
    go_simp
    with_reducible rfl
  rotate_left
  · simp only [Act.put, List.setIfInBounds_toArray, List.set_cons_zero, List.set_cons_succ]
    rfl
  refine pure_ (i := 2) (N := some 13) (v := ?_) (a' := ?_) #[true, false, true, false, false, false, false, false, false, false, false, false, false, false, false, false, false, false, false, false] rfl rfl (by kernel_rfl) (fun _ _ _ h => h) (Or.inl ⟨by rfl, ?_⟩) ?_ ?_
  rotate_left
  · intro w'
    go_simp
    with_reducible rfl
  rotate_left
  · simp only [Act.put, List.setIfInBounds_toArray, List.set_cons_zero, List.set_cons_succ]
    rfl
  refine pure_ (i := 3) (N := some 14) (v := ?_) (a' := ?_) #[true, false, true, true, false, false, false, false, false, false, false, false, false, false, false, false, false, false, false, false] rfl rfl (by kernel_rfl) (fun _ _ _ h => h) (Or.inl ⟨by rfl, ?_⟩) ?_ ?_
  rotate_left
  · intro w'
    go_simp
    with_reducible rfl
  rotate_left
  · simp only [Act.put, List.setIfInBounds_toArray, List.set_cons_zero, List.set_cons_succ]
    rfl
  refine pure_ (i := 4) (N := some 15) (v := ?_) (a' := ?_) #[true, false, true, true, true, false, false, false, false, false, false, false, false, false, false, false, false, false, false, false] rfl rfl (by kernel_rfl) (fun _ _ _ h => h) (Or.inl ⟨by rfl, ?_⟩) ?_ ?_
  rotate_left
  · intro w'
    go_simp
    with_reducible rfl
  rotate_left
  · simp only [Act.put, List.setIfInBounds_toArray, List.set_cons_zero, List.set_cons_succ]
    rfl
  refine take_ (i := 5) (N := some 16) (v := ?_) (a' := ?_) #[true, false, true, true, true, true, false, false, false, false, false, false, false, false, false, false, false, false, false, false] rfl rfl (by kernel_rfl) (fun _ _ _ h => h) (Or.inl ⟨by rfl, ?_⟩) hHeld ?_ ?_
  rotate_left
  · intro w' s0
    go_simp
    with_reducible rfl
  rotate_left
  · simp only [Act.put, List.setIfInBounds_toArray, List.set_cons_zero, List.set_cons_succ]
    rfl
  refine pure_ (i := 6) (N := some 17) (v := ?_) (a' := ?_) #[true, false, true, true, true, true, true, false, false, false, false, false, false, false, false, false, false, false, false, false] rfl rfl (by kernel_rfl) (fun _ _ _ h => h) (Or.inl ⟨by rfl, ?_⟩) ?_ ?_
  rotate_left
  · intro w'
    go_simp
    with_reducible rfl
  rotate_left
  · simp only [Act.put, List.setIfInBounds_toArray, List.set_cons_zero, List.set_cons_succ]
    rfl
  refine pure_ (i := 7) (N := some 18) (v := ?_) (a' := ?_) #[true, false, true, true, true, true, true, true, false, false, false, false, false, false, false, false, false, false, false, false] rfl rfl (by kernel_rfl) (fun _ _ _ h => h) (Or.inl ⟨by rfl, ?_⟩) ?_ ?_
  rotate_left
  · intro w'
    go_simp
    with_reducible rfl
  rotate_left
  · simp only [Act.put, List.setIfInBounds_toArray, List.set_cons_zero, List.set_cons_succ]
    rfl
  refine pure_ (i := 9) (N := some 20) (v := ?_) (a' := ?_) #[true, false, true, true, true, true, true, true, false, true, false, false, false, false, false, false, false, false, false, false] rfl rfl (by kernel_rfl) (fun _ _ _ h => h) (Or.inl ⟨by rfl, ?_⟩) ?_ ?_
  rotate_left
  · intro w'
    go_simp
    with_reducible rfl
  rotate_left
  · simp only [Act.put, List.setIfInBounds_toArray, List.set_cons_zero, List.set_cons_succ]
    rfl
  refine pure_ (i := 10) (N := some 21) (v := ?_) (a' := ?_) #[true, false, true, true, true, true, true, true, false, true, true, false, false, false, false, false, false, false, false, false] rfl rfl (by kernel_rfl) (fun _ _ _ h => h) (Or.inl ⟨by rfl, ?_⟩) ?_ ?_
  rotate_left
  · intro w'
    go_simp
    with_reducible rfl
  rotate_left
  · simp only [Act.put, List.setIfInBounds_toArray, List.set_cons_zero, List.set_cons_succ]
    rfl
  refine pure_ (i := 11) (N := some 22) (v := ?_) (a' := ?_) #[true, false, true, true, true, true, true, true, false, true, true, true, false, false, false, false, false, false, false, false] rfl rfl (by kernel_rfl) (fun _ _ _ h => h) (Or.inl ⟨by rfl, ?_⟩) ?_ ?_
  rotate_left
  · intro w'
    go_simp
    with_reducible rfl
  rotate_left
  · simp only [Act.put, List.setIfInBounds_toArray, List.set_cons_zero, List.set_cons_succ]
    rfl
  refine take_ (i := 12) (N := some 23) (v := ?_) (a' := ?_) #[true, false, true, true, true, true, true, true, false, true, true, true, true, false, false, false, false, false, false, false] rfl rfl (by kernel_rfl) (fun _ _ _ h => h) (Or.inl ⟨by rfl, ?_⟩) hHeld ?_ ?_
  rotate_left
  · intro w' s0
    go_simp
    with_reducible rfl
  rotate_left
  · simp only [Act.put, List.setIfInBounds_toArray, List.set_cons_zero, List.set_cons_succ]
    rfl
  refine pure_ (i := 13) (N := some 24) (v := ?_) (a' := ?_) #[true, false, true, true, true, true, true, true, false, true, true, true, true, true, false, false, false, false, false, false] rfl rfl (by kernel_rfl) (fun _ _ _ h => h) (Or.inl ⟨by rfl, ?_⟩) ?_ ?_
  rotate_left
  · intro w'
    go_simp
    with_reducible rfl
  rotate_left
  · simp only [Act.put, List.setIfInBounds_toArray, List.set_cons_zero, List.set_cons_succ]
    rfl
  refine pure_ (i := 14) (N := some 25) (v := ?_) (a' := ?_) #[true, false, true, true, true, true, true, true, false, true, true, true, true, true, true, false, false, false, false, false] rfl rfl (by kernel_rfl) (fun _ _ _ h => h) (Or.inl ⟨by rfl, ?_⟩) ?_ ?_
  rotate_left
  · intro w'
    go_simp
    with_reducible rfl
  rotate_left
  · simp only [Act.put, List.setIfInBounds_toArray, List.set_cons_zero, List.set_cons_succ]
    rfl
  refine pure_ (i := 15) (N := some 26) (v := ?_) (a' := ?_) #[true, false, true, true, true, true, true, true, false, true, true, true, true, true, true, true, false, false, false, false] rfl rfl (by kernel_rfl) (fun _ _ _ h => h) (Or.inl ⟨by rfl, ?_⟩) ?_ ?_
  rotate_left
  · intro w'
    go_simp
    with_reducible rfl
  rotate_left
  · simp only [Act.put, List.setIfInBounds_toArray, List.set_cons_zero, List.set_cons_succ]
    rfl
  refine one_ (i := 1) (N := some 12) #[true, true, true, true, true, true, true, true, false, true, true, true, true, true, true, true, false, false, false, false] rfl rfl (by kernel_rfl) (by decide) (fun K hK => ?_)
  refine event_step (v := .slice (some ⟨W2.heap.size, 0, none⟩) 0 0) (w1 := W2.alloc (.cells #[] 77)) (by rfl) (by go_simp) ?_
  refine hK.out _ _ ((hbA.out.cell (p := ⟨R, 3, none⟩) HR2.out).trans hHeld) (fun hHeld => ?_)
  clear hK K
  refine norm_ (a' := ?_) ?_ ?_
  rotate_left
  · show Act.put _ (some 12) _ = _
    simp only [Act.put, List.setIfInBounds_toArray, List.set_cons_zero, List.set_cons_succ]
    rfl
  refine one_ (i := 8) (N := some 19) #[true, true, true, true, true, true, true, true, true, true, true, true, true, true, true, true, false, false, false, false] rfl rfl (by kernel_rfl) (by decide) (fun K hK => ?_)
  refine step_rows (K := _) W2.heap.size (by rfl) (.tmp 12) (.tmp 18) (by rfl) (.slice (some ⟨W2.heap.size, 0, none⟩) 0 0) [] A k c (L.take k) (by rfl) (by rfl) (R_lit0 W2) HCT.out hbA.out.size (by simp only [List.length_nil]; have := HLL.out; omega) ?_
  intro v3 w3 HV3 hb3
  have hb3 := Aside0.mk (hbA.out.trans hb3)
  have HV3 := Aside0.mk HV3
  refine hK.out _ _ ((hb3.out.cell (p := ⟨R, 3, none⟩) HR2.out).trans HS2.out) (fun hHeld => ?_)
  clear hK K
  refine norm_ (a' := ?_) ?_ ?_
  rotate_left
  · show Act.put _ (some 19) _ = _
    simp only [Act.put, List.setIfInBounds_toArray, List.set_cons_zero, List.set_cons_succ]
    rfl
  refine one_ (i := 16) (N := some 27) #[true, true, true, true, true, true, true, true, true, true, true, true, true, true, true, true, true, false, false, false] rfl rfl (by kernel_rfl) (by decide) (fun K hK => ?_)
  refine step_rows (K := _) W2.heap.size (by rfl) (.tmp 19) (.tmp 26) (by rfl) v3 ([] ++ L.take k) A4 (L.length - j.toNat) (c - j.toNat) (L.drop j.toNat) (by rfl) (by rfl) HV3.out (Kd.C_below HCD.out hb3.out) hb3.out.size (by have := HLL.out; simp; omega) ?_
  intro v4 w4 HV4 hb4
  have hb4 := Aside0.mk (hb3.out.trans hb4)
  have HV4 := Aside0.mk HV4
  refine hK.out _ _ ((hb4.out.cell (p := ⟨R, 3, none⟩) HR2.out).trans HS2.out) (fun hHeld => ?_)
  clear hK K
  refine norm_ (a' := ?_) ?_ ?_
  rotate_left
  · show Act.put _ (some 27) _ = _
    simp only [Act.put, List.setIfInBounds_toArray, List.set_cons_zero, List.set_cons_succ]
    rfl
  refine pure_ (i := 17) (N := some 28) (v := ?_) (a' := ?_) #[true, true, true, true, true, true, true, true, true, true, true, true, true, true, true, true, true, true, false, false] rfl rfl (by kernel_rfl) (fun _ _ _ h => h) (Or.inl ⟨by rfl, ?_⟩) ?_ ?_
  rotate_left
  · intro w'
    go_simp
    with_reducible rfl
  rotate_left
  · simp only [Act.put, List.setIfInBounds_toArray, List.set_cons_zero, List.set_cons_succ]
    rfl
  refine pure_ (i := 18) (N := some 29) (v := ?_) (a' := ?_) #[true, true, true, true, true, true, true, true, true, true, true, true, true, true, true, true, true, true, true, false] rfl rfl (by kernel_rfl) (fun _ _ _ h => h) (Or.inl ⟨by rfl, ?_⟩) ?_ ?_
  rotate_left
  · intro w'
    go_simp
    with_reducible rfl
  rotate_left
  · simp only [Act.put, List.setIfInBounds_toArray, List.set_cons_zero, List.set_cons_succ]
    rfl
  refine last_ (i := 19) (N := none) #[true, true, true, true, true, true, true, true, true, true, true, true, true, true, true, true, true, true, true, true] rfl rfl (by kernel_rfl) (by decide) (fun K hK => ?_)
  obtain ⟨A5, c5, rfl⟩ := Kd.R_slice HV4.out
  have hB4 := Aside0.mk (blk_below HG2.out hb4.out)
  have hs : w4.cell? ⟨R, 3, none⟩ = some (.slice A L.length c) := (blk_cell hB4.out 3).trans (by first | rfl | exact RK.c3 _ _ _ _ _)
  have hfs := blk_frozen hB4.out 3
  refine skip_ (w1 := ?_) (by rfl) rfl ?_ ?_
  rotate_left
  · go_simp
    rfl
  refine hK.out _ _ ?_
  clear hK K
  refine done_ (by kernel_rfl) ?_
  go_wp2
  go_ret
  have h9 := HM2.out.put hb4.out HV4.out ct
  have hLn : ([] ++ L.take k ++ L.drop j.toNat).length = min k L.length + (L.length - j.toNat) := by simp
  rw [hLn] at h9
  have hLe : [] ++ L.take k ++ L.drop j.toNat = L.take k ++ L.drop (k + 1) := by rw [List.nil_append, HLL.out.2.2]
  rw [hLe] at h9
  refine ⟨rfl, ⟨_, h9, ?_, .inr (fun b hb => ?_)⟩⟩
  · exact Fr.then_ (Fr.of_below (below_step hB2.out hb4.out)) (Fr.set w4 R 3 _) (fun _ h => .inl h)
  · skip
    exact Nat.le_trans hB2.out.size (own_base (own_of_R HV4.out) b (by rw [hLn]; exact hb))
set_option maxHeartbeats 4000000 in
set_option maxRecDepth 100000 in
theorem rdrop_no (h : RS N w R v ag rm ct L) (id : Int) (hp : place L id = -1) (hl : L.length ≤ 1000) :
    Calls Try.prog 51 #[.pointer (some ⟨R, 0, none⟩), .int .i64 id] w fun e w' => e = .returned (.bool false) ∧ Aside0 (RGo N w R v w' ag rm ct L) := by
  have hf := rfind_calls h id (by omega)
  rw [hp] at hf
  have H := Aside0.mk h
  clear h
  go_enter Try.func51, Try.ntmps51
  go_wp2_with (go_at_call 62; refine hf.mono ?_; rintro e w1 ⟨rfl, hb1⟩; clear hf)
  go_ret
  exact ⟨rfl, ⟨v, H.out.step hb1, Fr.of_below hb1, .inl rfl⟩⟩
theorem rdrop_calls (h : RS N w R v ag rm ct L) (id : Int) (hl : L.length ≤ 1000) :
    Calls Try.prog 51 #[.pointer (some ⟨R, 0, none⟩), .int .i64 id] w fun e w' => e = .returned (.bool (decide (0 ≤ place L id))) ∧ Aside0 (RGo N w R v w' ag rm ct (rdropL L id)) := by
  unfold rdropL
  rcases place_cases L id with ⟨h1, h2⟩ | ⟨k, h1, h2, h3⟩
  · rw [h1, if_neg (by omega)]
    exact rdrop_no h id h1 hl
  · have := rdrop_yes h id k h1 h2 hl
    rw [h2, if_pos (by omega), Int.toNat_natCast, decide_eq_true (by omega)]
    exact this
end
end Go.Proofs.Ytfkebbkfmchnaaa.Ln
