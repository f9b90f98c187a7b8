/- The reference's Put as a call. Conditions: the queue lies in memory as told. -/
import Derived.Test.YtfkebbkfmchnaaaQrd
namespace Go.Proofs.Ytfkebbkfmchnaaa.Ln
open Go.RowKit Go.Proofs.Ytfkebbkfmchnaaa.PBase Go.Proofs.Ytfkebbkfmchnaaa.PRef Go.Proofs.Ytfkebbkfmchnaaa.Cat Go.Proofs.Ytfkebbkfmchnaaa.Heap Go.Proofs.YtfkebbkfmchnaaaW.PrintWords Go.Proofs.YtfkebbkfmchnaaaW.PrintLast Go.Proofs.YtfkebbkfmchnaaaW.PrintMore
set_option linter.unusedVariables false
theorem R_one (W : World) (id cl ct : Int) {b : Nat} (hb : b ≤ W.heap.size) : Kd.R k77 77 (W.alloc (.cells #[.int .i64 id, .int .i64 cl, .int .i64 ct] 77)) b (fun k => k = W.heap.size) (.slice (some ⟨W.heap.size, 0, none⟩) 1 1) [(⟨id, cl, ct⟩ : S77)] :=
  Kd.R_mono (Kd.R_tight2 rfl (Kd.R_lower (R_lit1 W ⟨id, cl, ct⟩) hb)) (fun k hk => Option.some.inj hk.1)
theorem R_reads1 {W : World} {b g : Nat} {ok : Nat → Prop} {x : S77} (h : Kd.R k77 77 W b ok (.slice (some ⟨g, 0, none⟩) 1 1) [x]) : Kd.C k77 W (some ⟨g, 0, none⟩) 1 [x] := by
  obtain ⟨A, c, e, _, hC⟩ := Kd.R_reads h
  cases e
  exact hC
/-- append(v, ys...), v the call's own: what is none of v's block stays. -/
theorem run_rows2 {W : World} {base : Nat} {ok : Nat → Prop} {v : Value} {xs : List S77} (ty : TypeId) (A : Option Addr) (m c : Nat) (ys : List S77) (HO : Kd.R k77 77 W base ok v xs) (HR : Kd.C k77 W A m ys) (hbase : base ≤ W.heap.size) (hl : (xs.length + m) * 24 ≤ 140737488355328) :
    ∃ v1 w1, (Builtin.append_ #[63, 63] ty #[v, .slice A m c]).run Try.prog W = .ok v1 w1 ∧ Kd.R k77 77 w1 base (fun _ => True) v1 (xs ++ ys) ∧ Below base W w1 ∧ Fr (fun k => v.ownBlock = some k) W w1 := by
  obtain ⟨i0, hi, hzz⟩ := Option.map_eq_some_iff.1 Cat.info77
  simp only [Prod.mk.injEq] at hzz
  obtain ⟨hz0, hz1, hz2⟩ := hzz
  have hyl : ys.length = m := HR.1
  have hown := own_of_R HO
  rcases A with _ | ad
  · have h0 : m = 0 := by
      rcases Nat.eq_zero_or_pos m with h0 | h0
      · exact h0
      · obtain ⟨ad, h, _⟩ := HR.2.2 h0
        cases h
    subst h0
    obtain rfl : ys = [] := List.eq_nil_of_length_eq_zero hyl
    refine ⟨v, W, ?_, by rw [List.append_nil]; exact Kd.R_mono HO (fun _ _ => trivial), Below.refl _ _, Fr.refl _ _⟩
    rcases hown.2 with ⟨rfl, hn⟩ | ⟨g, cap, cur, rfl, _, _, hnc, _⟩
    · simp [Builtin.append_, run_underlying Try.underlying63, sizeOf, typeInfo, hi, Builtin.lenOf, Builtin.firstCells]
    · simp [Builtin.append_, run_underlying Try.underlying63, sizeOf, typeInfo, hi, Builtin.lenOf, Builtin.firstCells, hnc, storeCells]
  · obtain ⟨v1, w1, hrun, h2, hg, _, _⟩ := run_append_own_at (P := Try.prog) W base 63 ty 77 i0 _ 3 24 Try.underlying63 hi hz0 hz1 hz2 rfl (by decide) v xs.length (flat xs) hown ad m c (flat ys) (by rw [flat_len, hyl]) (C_cells HR) flat_one (by simp only [maxLen]; omega) hl hbase
    refine ⟨v1, w1, hrun, R_of_own ?_, ⟨hg.os, hg.tape, hg.output, hg.size, fun k hk => hg.block k (Nat.lt_of_lt_of_le hk hbase) (fun he => by have := own_base hown k he.symm; omega)⟩, Fr.of_grown hg (fun k e => e)⟩
    rw [← flat_append, ← hyl, ← List.length_append] at h2
    exact h2
section
variable {ops : Array Oper} {o : Oper} {a : Act} {Q : Exit → Act → World → Prop} {K : Act → World → Prop}
theorem step_rows2 {W : World} (base : Nat) {ok : Nat → Prop} (hw : Region.wanted o (yielded ops a.tmps) = true) (s x : Operand) (ho : o.op = .call { callee := .builtin .append, args := #[s, x], argTypes := #[63, 63] })
    (v : Value) (xs : List S77) (A : Option Addr) (m c : Nat) (ys : List S77) (hs : a.eval s = v) (hx : a.eval x = .slice A m c) (HO : Kd.R k77 77 W base ok v xs) (HR : Kd.C k77 W A m ys) (hbase : base ≤ W.heap.size) (hl : (xs.length + m) * 24 ≤ 140737488355328)
    (h : ∀ v1 w1, Kd.R k77 77 w1 base (fun _ => True) v1 (xs ++ ys) → Below base W w1 → Fr (fun k => v.ownBlock = some k) W w1 → K (a.put o.dst v1) w1) :
    if Region.wanted o (yielded ops a.tmps) = true then Oper.wp Try.prog o a W K Q else K (a.put o.dst undef) W := by
  obtain ⟨v1, w1, hr, h1, h2, h3⟩ := run_rows2 o.type A m c ys HO HR hbase hl
  refine event_step hw ?_ (h v1 w1 h1 h2 h3)
  unfold execOp
  simp only [ho, resolve, invoke, builtin, Sem.run_bind, Sem.run_pure, Result.andThen_ok, List.map_toArray, List.map_cons, List.map_nil, hs, hx, hr]
end
section
variable {N : Nat} {w : World} {R : RK} {v : Value} {ag rm ct : Int} {L : List S77}
theorem rput_end {W2 w4 : World} {L2 L3 : List S77} {A5 : Option Addr} {c5 n5 : Nat} (h : RS N W2 R v ag rm ct L) (hb : Below w.heap.size w W2) (hb4 : Below W2.heap.size W2 w4) (hV : Kd.R k77 77 w4 W2.heap.size (fun _ => True) (.slice A5 L2.length c5) L2) (hn : L2.length = n5) (hL : L2 = L3) :
    Aside0 (RGo N w R v (w4.setCell ⟨R, 3, none⟩ (.slice A5 n5 c5)) ag rm ct L3) := by
  subst hn hL
  refine ⟨_, h.put hb4 hV ct, ?_, .inr (fun b hb1 => Nat.le_trans hb.size (own_base (own_of_R hV) b hb1))⟩
  exact Fr.then_ (Fr.of_below (below_step hb hb4)) (Fr.set w4 R 3 _) (fun _ h => .inl h)
set_option maxHeartbeats 8000000 in
set_option maxRecDepth 100000 in
theorem rput_yes (h : RS N w R v ag rm ct L) (id cl : Int) (hc1 : 0 ≤ cl) (hc2 : cl < 8) (hp : place L id = -1) (hl : L.length ≤ 1000) (hr : (L.length : Int) < rm) :
    Calls Try.prog 44 #[.pointer (some ⟨R, 0, none⟩), .int .i64 id, .int .i64 cl] w fun e w' => e = .returned (.int .i64 0) ∧ Aside0 (RGo N w R v w' ag rm ct (L ++ [⟨id, cl, ct⟩])) := by
  have hf := rfind_calls h id (by omega)
  rw [hp] at hf
  obtain ⟨A, c, rfl, hc, hC⟩ := Kd.R_reads h.r
  have HC := Aside0.mk hC
  have HLL : Aside0 (L.length ≤ 1000) := ⟨hl⟩
  have H := Aside0.mk h
  clear h hC
  go_enter Try.func44, Try.ntmps44
  go_wp2_with (go_at_call 62; refine hf.mono ?_; rintro e w1 ⟨rfl, hb1⟩; clear hf)
  have HM := Aside0.mk (H.out.step hb1)
  have c1 : w1.cell? ⟨R, 1, none⟩ = some (.int .i64 rm) := (blk_cell HM.out.g 1).trans (RK.c1 _ _ _ _ _)
  have c3 : w1.cell? ⟨R, 3, none⟩ = some (.slice A L.length c) := (blk_cell HM.out.g 3).trans (RK.c3 _ _ _ _ _)
  go_region_held3 (fun w' => w'.cell? ⟨R, 3, none⟩ = some (.slice A L.length c) ∧ w'.cell? ⟨R, 1, none⟩ = some (.int .i64 rm)) (go_keep) (fail)
  have hbd := below_drew1 (Below.refl w1.heap.size w1)
  have HM1 := Aside0.mk (HM.out.step hbd)
  have hB1 := Aside0.mk (below_step hb1 hbd)
  clear c1 c3 HM hb1 hbd
  go_wp2
  generalize w1.drew = w5 at HM1 hB1 ⊢
  have c3 : w5.cell? ⟨R, 3, none⟩ = some (.slice A L.length c) := (blk_cell HM1.out.g 3).trans (RK.c3 _ _ _ _ _)
  have c2 : w5.cell? ⟨R, 2, none⟩ = some (.int .i64 ct) := (blk_cell HM1.out.g 2).trans (RK.c2 _ _ _ _ _)
  refine start_ (n := 19) (S := fun w' => w'.cell? ⟨R, 3, none⟩ = some (.slice A L.length c) ∧ w'.cell? ⟨R, 2, none⟩ = some (.int .i64 ct)) (ds := [18]) #[false, false, false, false, false, false, false, false, false, false, false, false, false, false, false, false, false, false, false] (by kernel_rfl) rfl rfl ⟨c3, c2⟩ (fun hHeld => ?_)
  have hb2 := below_drew1 (Below.refl w5.heap.size w5)
  have HM2 := Aside0.mk (HM1.out.step hb2)
  have hBw := Aside0.mk (below_step hB1.out hb2)
  generalize w5.drew = W2 at hHeld HM2 hBw ⊢
  clear c3 c2 hb2 HM1 hB1
  have HG2 := Aside0.mk HM2.out.g
  have HC2 := Aside0.mk (Kd.C_below HC.out hBw.out)
  have hB0 := Aside0.mk (Below.refl W2.heap.size W2)
  have hlt := blk_lt HM2.out.g
  have kp : Aside0 (∀ w', Below W2.heap.size W2 w' → w'.cell? ⟨R, 3, none⟩ = some (.slice A L.length c) ∧ w'.cell? ⟨R, 2, none⟩ = some (.int .i64 ct)) := ⟨fun w' hb => ⟨(hb.cell (p := ⟨R, 3, none⟩) hlt).trans hHeld.1, (hb.cell (p := ⟨R, 2, none⟩) hlt).trans hHeld.2⟩⟩
  clear hlt
  refine pure_ (i := 0) (N := some 30) (v := ?_) (a' := ?_) #[true, false, false, false, false, false, false, false, false, false, false, false, false, false, false, false, false, false, false] rfl rfl (by kernel_rfl) (fun _ _ _ h => h) (Or.inl ⟨by rfl, ?_⟩) ?_ ?_
  rotate_left
  · intro w'
    go_simp
    with_reducible rfl
  rotate_left
  · simp only [Act.put, List.setIfInBounds_toArray, List.set_cons_zero, List.set_cons_succ]
    rfl
  refine pure_ (i := 2) (N := some 32) (v := ?_) (a' := ?_) #[true, false, true, false, false, false, false, false, false, false, false, false, false, false, false, false, false, false, false] rfl rfl (by kernel_rfl) (fun _ _ _ h => h) (Or.inl ⟨by rfl, ?_⟩) ?_ ?_
  rotate_left
  · intro w'
    go_simp
    with_reducible rfl
  rotate_left
  · simp only [Act.put, List.setIfInBounds_toArray, List.set_cons_zero, List.set_cons_succ]
    rfl
  refine pure_ (i := 3) (N := some 33) (v := ?_) (a' := ?_) #[true, false, true, true, false, false, false, false, false, false, false, false, false, false, false, false, false, false, false] rfl rfl (by kernel_rfl) (fun _ _ _ h => h) (Or.inl ⟨by rfl, ?_⟩) ?_ ?_
  rotate_left
  · intro w'
    go_simp
    with_reducible rfl
  rotate_left
  · simp only [Act.put, List.setIfInBounds_toArray, List.set_cons_zero, List.set_cons_succ]
    rfl
  refine pure_ (i := 4) (N := some 34) (v := ?_) (a' := ?_) #[true, false, true, true, true, false, false, false, false, false, false, false, false, false, false, false, false, false, false] rfl rfl (by kernel_rfl) (fun _ _ _ h => h) (Or.inl ⟨by rfl, ?_⟩) ?_ ?_
  rotate_left
  · intro w'
    go_simp
    with_reducible rfl
  rotate_left
  · simp only [Act.put, List.setIfInBounds_toArray, List.set_cons_zero, List.set_cons_succ]
    rfl
  refine take_ (i := 5) (N := some 35) (v := ?_) (a' := ?_) #[true, false, true, true, true, true, false, false, false, false, false, false, false, false, false, false, false, false, false] rfl rfl (by kernel_rfl) (fun _ _ _ h => h) (Or.inl ⟨by rfl, ?_⟩) hHeld ?_ ?_
  rotate_left
  · rintro w' ⟨s0, s1⟩
    go_simp
    with_reducible rfl
  rotate_left
  · simp only [Act.put, List.setIfInBounds_toArray, List.set_cons_zero, List.set_cons_succ]
    rfl
  refine pure_ (i := 7) (N := some 37) (v := ?_) (a' := ?_) #[true, false, true, true, true, true, false, true, false, false, false, false, false, false, false, false, false, false, false] rfl rfl (by kernel_rfl) (fun _ _ _ h => h) (Or.inl ⟨by rfl, ?_⟩) ?_ ?_
  rotate_left
  · intro w'
    go_simp
    with_reducible rfl
  rotate_left
  · simp only [Act.put, List.setIfInBounds_toArray, List.set_cons_zero, List.set_cons_succ]
    rfl
  refine pure_ (i := 8) (N := some 38) (v := ?_) (a' := ?_) #[true, false, true, true, true, true, false, true, true, false, false, false, false, false, false, false, false, false, false] rfl rfl (by kernel_rfl) (fun _ _ _ h => h) (Or.inl ⟨by rfl, ?_⟩) ?_ ?_
  rotate_left
  · intro w'
    go_simp
    with_reducible rfl
  rotate_left
  · simp only [Act.put, List.setIfInBounds_toArray, List.set_cons_zero, List.set_cons_succ]
    rfl
  refine pure_ (i := 9) (N := some 39) (v := ?_) (a' := ?_) #[true, false, true, true, true, true, false, true, true, true, false, false, false, false, false, false, false, false, false] rfl rfl (by kernel_rfl) (fun _ _ _ h => h) (Or.inl ⟨by rfl, ?_⟩) ?_ ?_
  rotate_left
  · intro w'
    go_simp
    with_reducible rfl
  rotate_left
  · simp only [Act.put, List.setIfInBounds_toArray, List.set_cons_zero, List.set_cons_succ]
    rfl
  refine pure_ (i := 10) (N := some 40) (v := ?_) (a' := ?_) #[true, false, true, true, true, true, false, true, true, true, true, false, false, false, false, false, false, false, false] rfl rfl (by kernel_rfl) (fun _ _ _ h => h) (Or.inl ⟨by rfl, ?_⟩) ?_ ?_
  rotate_left
  · intro w'
    go_simp
    with_reducible rfl
  rotate_left
  · simp only [Act.put, List.setIfInBounds_toArray, List.set_cons_zero, List.set_cons_succ]
    rfl
  refine pure_ (i := 11) (N := some 41) (v := ?_) (a' := ?_) #[true, false, true, true, true, true, false, true, true, true, true, true, false, false, false, false, false, false, false] rfl rfl (by kernel_rfl) (fun _ _ _ h => h) (Or.inl ⟨by rfl, ?_⟩) ?_ ?_
  rotate_left
  · intro w'
    go_simp
    with_reducible rfl
  rotate_left
  · simp only [Act.put, List.setIfInBounds_toArray, List.set_cons_zero, List.set_cons_succ]
    rfl
  refine take_ (i := 12) (N := some 42) (v := ?_) (a' := ?_) #[true, false, true, true, true, true, false, true, true, true, true, true, true, false, false, false, false, false, false] rfl rfl (by kernel_rfl) (fun _ _ _ h => h) (Or.inl ⟨by rfl, ?_⟩) hHeld ?_ ?_
  rotate_left
  · rintro w' ⟨s0, s1⟩
    go_simp
    with_reducible rfl
  rotate_left
  · simp only [Act.put, List.setIfInBounds_toArray, List.set_cons_zero, List.set_cons_succ]
    rfl
  refine pure_ (i := 13) (N := some 43) (v := ?_) (a' := ?_) #[true, false, true, true, true, true, false, true, true, true, true, true, true, true, false, false, false, false, false] rfl rfl (by kernel_rfl) (fun _ _ _ h => h) (Or.inl ⟨by rfl, ?_⟩) ?_ ?_
  rotate_left
  · intro w'
    go_simp
    with_reducible rfl
  rotate_left
  · simp only [Act.put, List.setIfInBounds_toArray, List.set_cons_zero, List.set_cons_succ]
    rfl
  refine two_ (i := 1) (j := 14) (Ni := some 31) (Nj := some 44) #[true, true, true, true, true, true, false, true, true, true, true, true, true, true, false, false, false, false, false] #[true, false, true, true, true, true, false, true, true, true, true, true, true, true, true, false, false, false, false] rfl rfl rfl rfl (by kernel_rfl) (by decide) (by decide) (fun K hK => ?_) (fun K hK => ?_)
  · refine event_step (v := .slice (some ⟨W2.heap.size, 0, none⟩) 0 0) (w1 := W2.alloc (.cells #[] 77)) (by rfl) (by go_simp) ?_
    have hB1 := Aside0.mk (hB0.out.trans (below_lower (below_alloc (Below.refl W2.heap.size W2) (.cells #[] 77)) hB0.out.size))
    have hV1 := Aside0.mk (Kd.R_lower (R_lit0 W2) hB0.out.size)
    refine hK.out _ _ (kp.out _ hB1.out) (fun hHeld => ?_)
    clear hK K
    refine norm_ (a' := ?_) ?_ ?_
    rotate_left
    · show Act.put _ (some 31) _ = _
      simp only [Act.put, List.setIfInBounds_toArray, List.set_cons_zero, List.set_cons_succ]
      rfl
    generalize hq1 : W2.alloc (.cells #[] 77) = w11 at hB1 hHeld hV1 ⊢
    clear hq1
    refine two_ (i := 6) (j := 14) (Ni := some 36) (Nj := some 44) #[true, true, true, true, true, true, true, true, true, true, true, true, true, true, false, false, false, false, false] #[true, true, true, true, true, true, false, true, true, true, true, true, true, true, true, false, false, false, false] rfl rfl rfl rfl (by kernel_rfl) (by decide) (by decide) (fun K hK => ?_) (fun K hK => ?_)
    · refine step_rows2 (K := _) W2.heap.size (by rfl) (.tmp 31) (.tmp 35) (by rfl) (.slice (some ⟨W2.heap.size, 0, none⟩) 0 0) [] A L.length c L (by rfl) (by rfl) hV1.out (Kd.C_below HC2.out hB1.out) hB1.out.size (by simp only [List.length_nil]; have := HLL.out; omega) ?_
      intro v2 w12 hv2 hb2 hf2
      have hB2 := Aside0.mk (hB1.out.trans hb2)
      have hV2 := Aside0.mk hv2
      refine hK.out _ _ (kp.out _ hB2.out) (fun hHeld => ?_)
      clear hK K
      refine norm_ (a' := ?_) ?_ ?_
      rotate_left
      · show Act.put _ (some 36) _ = _
        simp only [Act.put, List.setIfInBounds_toArray, List.set_cons_zero, List.set_cons_succ]
        rfl
      clear hv2 hb2 hf2
      refine one_ (i := 14) (N := some 44) #[true, true, true, true, true, true, true, true, true, true, true, true, true, true, true, false, false, false, false] rfl rfl (by kernel_rfl) (by decide) (fun K hK => ?_)
      refine event_step (v := .slice (some ⟨w12.heap.size, 0, none⟩) 1 1) (w1 := w12.alloc (.cells #[.int .i64 id, .int .i64 cl, .int .i64 ct] 77)) (by rfl) (by go_simp) ?_
      have hB3 := Aside0.mk (hB2.out.trans (below_lower (below_alloc (Below.refl w12.heap.size w12) (.cells #[.int .i64 id, .int .i64 cl, .int .i64 ct] 77)) hB2.out.size))
      have hX3 := Aside0.mk (R_one w12 id cl ct hB2.out.size)
      have hV3 := Aside0.mk (Kd.R_below hV2.out (below_alloc (Below.refl _ _) (.cells #[.int .i64 id, .int .i64 cl, .int .i64 ct] 77)))
      refine hK.out _ _ (kp.out _ hB3.out) (fun hHeld => ?_)
      clear hK K
      refine norm_ (a' := ?_) ?_ ?_
      rotate_left
      · show Act.put _ (some 44) _ = _
        simp only [Act.put, List.setIfInBounds_toArray, List.set_cons_zero, List.set_cons_succ]
        rfl
      generalize hq3 : w12.alloc (.cells #[.int .i64 id, .int .i64 cl, .int .i64 ct] 77) = w13 at hB3 hHeld hX3 hV3 ⊢
      clear hq3
      refine one_ (i := 15) (N := some 45) #[true, true, true, true, true, true, true, true, true, true, true, true, true, true, true, true, false, false, false] rfl rfl (by kernel_rfl) (by decide) (fun K hK => ?_)
      refine step_rows2 (K := _) W2.heap.size (by rfl) (.tmp 36) (.tmp 44) (by rfl) v2 ([] ++ L) (some ⟨w12.heap.size, 0, none⟩) 1 1 [(⟨id, cl, ct⟩ : S77)] (by rfl) (by rfl) hV3.out (R_reads1 hX3.out) hB3.out.size (by rw [List.nil_append]; have := HLL.out; omega) ?_
      intro v4 w14 hv4 hb4 hf4
      have hB4 := Aside0.mk (hB3.out.trans hb4)
      have hV4 := Aside0.mk hv4
      refine hK.out _ _ (kp.out _ hB4.out) (fun hHeld => ?_)
      clear hK K
      refine norm_ (a' := ?_) ?_ ?_
      rotate_left
      · show Act.put _ (some 45) _ = _
        simp only [Act.put, List.setIfInBounds_toArray, List.set_cons_zero, List.set_cons_succ]
        rfl
      clear hv4 hb4 hf4
      refine pure_ (i := 16) (N := some 46) (v := ?_) (a' := ?_) #[true, true, true, true, true, true, true, true, true, true, true, true, true, true, true, true, true, false, false] rfl rfl (by kernel_rfl) (fun _ _ _ h => h) (Or.inl ⟨by rfl, ?_⟩) ?_ ?_
      rotate_left
      · intro w'
        go_simp
        with_reducible rfl
      rotate_left
      · simp only [Act.put, List.setIfInBounds_toArray, List.set_cons_zero, List.set_cons_succ]
        rfl
      refine pure_ (i := 17) (N := some 47) (v := ?_) (a' := ?_) #[true, true, true, true, true, true, true, true, true, true, true, true, true, true, true, true, true, true, false] rfl rfl (by kernel_rfl) (fun _ _ _ h => h) (Or.inl ⟨by rfl, ?_⟩) ?_ ?_
      rotate_left
      · intro w'
        go_simp
        with_reducible rfl
      rotate_left
      · simp only [Act.put, List.setIfInBounds_toArray, List.set_cons_zero, List.set_cons_succ]
        rfl
      refine last_ (i := 18) (N := none) #[true, true, true, true, true, true, true, true, true, true, true, true, true, true, true, true, true, true, true] rfl rfl (by kernel_rfl) (by decide) (fun K hK => ?_)
      obtain ⟨A5, c5, rfl⟩ := Kd.R_slice hV4.out
      have hB9 := Aside0.mk (blk_below HG2.out hB4.out)
      have hs : w14.cell? ⟨R, 3, none⟩ = some (.slice A L.length c) := (blk_cell hB9.out 3).trans (by first | rfl | exact RK.c3 _ _ _ _ _)
      have hfs := blk_frozen hB9.out 3
      refine skip_ (w1 := ?_) (by rfl) rfl ?_ ?_
      rotate_left
      · go_simp
        rfl
      refine hK.out _ _ ?_
      clear hK K
      refine done_ (by kernel_rfl) ?_
      go_wp2
      go_ret
      exact ⟨rfl, rput_end HM2.out hBw.out hB4.out hV4.out (by simp) (by simp)⟩
    · refine event_step (v := .slice (some ⟨w11.heap.size, 0, none⟩) 1 1) (w1 := w11.alloc (.cells #[.int .i64 id, .int .i64 cl, .int .i64 ct] 77)) (by rfl) (by go_simp) ?_
      have hB5 := Aside0.mk (hB1.out.trans (below_lower (below_alloc (Below.refl w11.heap.size w11) (.cells #[.int .i64 id, .int .i64 cl, .int .i64 ct] 77)) hB1.out.size))
      have hX5 := Aside0.mk (R_one w11 id cl ct hB1.out.size)
      have hN5 : Aside0 (W2.heap.size ≠ w11.heap.size) := ⟨by have := own_lt (own_of_R hV1.out) _ rfl; simp only at this; omega⟩
      have hV5 := Aside0.mk (Kd.R_below hV1.out (below_alloc (Below.refl _ _) (.cells #[.int .i64 id, .int .i64 cl, .int .i64 ct] 77)))
      refine hK.out _ _ (kp.out _ hB5.out) (fun hHeld => ?_)
      clear hK K
      refine norm_ (a' := ?_) ?_ ?_
      rotate_left
      · show Act.put _ (some 44) _ = _
        simp only [Act.put, List.setIfInBounds_toArray, List.set_cons_zero, List.set_cons_succ]
        rfl
      generalize hq5 : w11.alloc (.cells #[.int .i64 id, .int .i64 cl, .int .i64 ct] 77) = w15 at hB5 hHeld hX5 hV5 ⊢
      clear hq5
      refine one_ (i := 6) (N := some 36) #[true, true, true, true, true, true, true, true, true, true, true, true, true, true, true, false, false, false, false] rfl rfl (by kernel_rfl) (by decide) (fun K hK => ?_)
      refine step_rows2 (K := _) W2.heap.size (by rfl) (.tmp 31) (.tmp 35) (by rfl) (.slice (some ⟨W2.heap.size, 0, none⟩) 0 0) [] A L.length c L (by rfl) (by rfl) hV5.out (Kd.C_below HC2.out hB5.out) hB5.out.size (by simp only [List.length_nil]; have := HLL.out; omega) ?_
      intro v6 w16 hv6 hb6 hf6
      have hB6 := Aside0.mk (hB5.out.trans hb6)
      have hV6 := Aside0.mk hv6
      have hX6 := Aside0.mk (Kd.R_kept hX5.out (S := fun k => Value.ownBlock (.slice (some ⟨W2.heap.size, 0, none⟩) 0 0) = some k) ⟨hf6.size, fun i hi hn => hf6.blk i hi hn⟩ (fun k hk e => hN5.out (Option.some.inj (e.trans (congrArg some hk)))))
      refine hK.out _ _ (kp.out _ hB6.out) (fun hHeld => ?_)
      clear hK K
      refine norm_ (a' := ?_) ?_ ?_
      rotate_left
      · show Act.put _ (some 36) _ = _
        simp only [Act.put, List.setIfInBounds_toArray, List.set_cons_zero, List.set_cons_succ]
        rfl
      clear hv6 hb6 hf6
      refine one_ (i := 15) (N := some 45) #[true, true, true, true, true, true, true, true, true, true, true, true, true, true, true, true, false, false, false] rfl rfl (by kernel_rfl) (by decide) (fun K hK => ?_)
      refine step_rows2 (K := _) W2.heap.size (by rfl) (.tmp 36) (.tmp 44) (by rfl) v6 ([] ++ L) (some ⟨w11.heap.size, 0, none⟩) 1 1 [(⟨id, cl, ct⟩ : S77)] (by rfl) (by rfl) hV6.out (R_reads1 hX6.out) hB6.out.size (by rw [List.nil_append]; have := HLL.out; omega) ?_
      intro v7 w17 hv7 hb7 hf7
      have hB7 := Aside0.mk (hB6.out.trans hb7)
      have hV7 := Aside0.mk hv7
      refine hK.out _ _ (kp.out _ hB7.out) (fun hHeld => ?_)
      clear hK K
      refine norm_ (a' := ?_) ?_ ?_
      rotate_left
      · show Act.put _ (some 45) _ = _
        simp only [Act.put, List.setIfInBounds_toArray, List.set_cons_zero, List.set_cons_succ]
        rfl
      clear hv7 hb7 hf7
      refine pure_ (i := 16) (N := some 46) (v := ?_) (a' := ?_) #[true, true, true, true, true, true, true, true, true, true, true, true, true, true, true, true, true, false, false] rfl rfl (by kernel_rfl) (fun _ _ _ h => h) (Or.inl ⟨by rfl, ?_⟩) ?_ ?_
      rotate_left
      · intro w'
        go_simp
        with_reducible rfl
      rotate_left
      · simp only [Act.put, List.setIfInBounds_toArray, List.set_cons_zero, List.set_cons_succ]
        rfl
      refine pure_ (i := 17) (N := some 47) (v := ?_) (a' := ?_) #[true, true, true, true, true, true, true, true, true, true, true, true, true, true, true, true, true, true, false] rfl rfl (by kernel_rfl) (fun _ _ _ h => h) (Or.inl ⟨by rfl, ?_⟩) ?_ ?_
      rotate_left
      · intro w'
        go_simp
        with_reducible rfl
      rotate_left
      · simp only [Act.put, List.setIfInBounds_toArray, List.set_cons_zero, List.set_cons_succ]
        rfl
      refine last_ (i := 18) (N := none) #[true, true, true, true, true, true, true, true, true, true, true, true, true, true, true, true, true, true, true] rfl rfl (by kernel_rfl) (by decide) (fun K hK => ?_)
      obtain ⟨A5, c5, rfl⟩ := Kd.R_slice hV7.out
      have hB9 := Aside0.mk (blk_below HG2.out hB7.out)
      have hs : w17.cell? ⟨R, 3, none⟩ = some (.slice A L.length c) := (blk_cell hB9.out 3).trans (by first | rfl | exact RK.c3 _ _ _ _ _)
      have hfs := blk_frozen hB9.out 3
      refine skip_ (w1 := ?_) (by rfl) rfl ?_ ?_
      rotate_left
      · go_simp
        rfl
      refine hK.out _ _ ?_
      clear hK K
      refine done_ (by kernel_rfl) ?_
      go_wp2
      go_ret
      exact ⟨rfl, rput_end HM2.out hBw.out hB7.out hV7.out (by simp) (by simp)⟩
  · refine event_step (v := .slice (some ⟨W2.heap.size, 0, none⟩) 1 1) (w1 := W2.alloc (.cells #[.int .i64 id, .int .i64 cl, .int .i64 ct] 77)) (by rfl) (by go_simp) ?_
    have hB8 := Aside0.mk (hB0.out.trans (below_lower (below_alloc (Below.refl W2.heap.size W2) (.cells #[.int .i64 id, .int .i64 cl, .int .i64 ct] 77)) hB0.out.size))
    have hX8 := Aside0.mk (R_one W2 id cl ct hB0.out.size)
    refine hK.out _ _ (kp.out _ hB8.out) (fun hHeld => ?_)
    clear hK K
    refine norm_ (a' := ?_) ?_ ?_
    rotate_left
    · show Act.put _ (some 44) _ = _
      simp only [Act.put, List.setIfInBounds_toArray, List.set_cons_zero, List.set_cons_succ]
      rfl
    generalize hq8 : W2.alloc (.cells #[.int .i64 id, .int .i64 cl, .int .i64 ct] 77) = w18 at hB8 hHeld hX8 ⊢
    clear hq8
    refine one_ (i := 1) (N := some 31) #[true, true, true, true, true, true, false, true, true, true, true, true, true, true, true, false, false, false, false] rfl rfl (by kernel_rfl) (by decide) (fun K hK => ?_)
    refine event_step (v := .slice (some ⟨w18.heap.size, 0, none⟩) 0 0) (w1 := w18.alloc (.cells #[] 77)) (by rfl) (by go_simp) ?_
    have hB9 := Aside0.mk (hB8.out.trans (below_lower (below_alloc (Below.refl w18.heap.size w18) (.cells #[] 77)) hB8.out.size))
    have hV9 := Aside0.mk (Kd.R_lower (R_lit0 w18) hB8.out.size)
    have hN9 : Aside0 (w18.heap.size ≠ W2.heap.size) := ⟨by have := own_lt (own_of_R hX8.out) _ rfl; simp only at this; omega⟩
    have hX9 := Aside0.mk (Kd.R_below hX8.out (below_alloc (Below.refl _ _) (.cells #[] 77)))
    refine hK.out _ _ (kp.out _ hB9.out) (fun hHeld => ?_)
    clear hK K
    refine norm_ (a' := ?_) ?_ ?_
    rotate_left
    · show Act.put _ (some 31) _ = _
      simp only [Act.put, List.setIfInBounds_toArray, List.set_cons_zero, List.set_cons_succ]
      rfl
    generalize hq9 : w18.alloc (.cells #[] 77) = w19 at hB9 hHeld hV9 hX9 ⊢
    clear hq9
    refine one_ (i := 6) (N := some 36) #[true, true, true, true, true, true, true, true, true, true, true, true, true, true, true, false, false, false, false] rfl rfl (by kernel_rfl) (by decide) (fun K hK => ?_)
    refine step_rows2 (K := _) W2.heap.size (by rfl) (.tmp 31) (.tmp 35) (by rfl) (.slice (some ⟨w18.heap.size, 0, none⟩) 0 0) [] A L.length c L (by rfl) (by rfl) hV9.out (Kd.C_below HC2.out hB9.out) hB9.out.size (by simp only [List.length_nil]; have := HLL.out; omega) ?_
    intro v10 w20 hv10 hb10 hf10
    have hB10 := Aside0.mk (hB9.out.trans hb10)
    have hV10 := Aside0.mk hv10
    have hX10 := Aside0.mk (Kd.R_kept hX9.out (S := fun k => Value.ownBlock (.slice (some ⟨w18.heap.size, 0, none⟩) 0 0) = some k) ⟨hf10.size, fun i hi hn => hf10.blk i hi hn⟩ (fun k hk e => hN9.out (Option.some.inj (e.trans (congrArg some hk)))))
    refine hK.out _ _ (kp.out _ hB10.out) (fun hHeld => ?_)
    clear hK K
    refine norm_ (a' := ?_) ?_ ?_
    rotate_left
    · show Act.put _ (some 36) _ = _
      simp only [Act.put, List.setIfInBounds_toArray, List.set_cons_zero, List.set_cons_succ]
      rfl
    clear hv10 hb10 hf10
    refine one_ (i := 15) (N := some 45) #[true, true, true, true, true, true, true, true, true, true, true, true, true, true, true, true, false, false, false] rfl rfl (by kernel_rfl) (by decide) (fun K hK => ?_)
    refine step_rows2 (K := _) W2.heap.size (by rfl) (.tmp 36) (.tmp 44) (by rfl) v10 ([] ++ L) (some ⟨W2.heap.size, 0, none⟩) 1 1 [(⟨id, cl, ct⟩ : S77)] (by rfl) (by rfl) hV10.out (R_reads1 hX10.out) hB10.out.size (by rw [List.nil_append]; have := HLL.out; omega) ?_
    intro v11 w21 hv11 hb11 hf11
    have hB11 := Aside0.mk (hB10.out.trans hb11)
    have hV11 := Aside0.mk hv11
    refine hK.out _ _ (kp.out _ hB11.out) (fun hHeld => ?_)
    clear hK K
    refine norm_ (a' := ?_) ?_ ?_
    rotate_left
    · show Act.put _ (some 45) _ = _
      simp only [Act.put, List.setIfInBounds_toArray, List.set_cons_zero, List.set_cons_succ]
      rfl
    clear hv11 hb11 hf11
    refine pure_ (i := 16) (N := some 46) (v := ?_) (a' := ?_) #[true, true, true, true, true, true, true, true, true, true, true, true, true, true, true, true, true, false, false] rfl rfl (by kernel_rfl) (fun _ _ _ h => h) (Or.inl ⟨by rfl, ?_⟩) ?_ ?_
    rotate_left
    · intro w'
      go_simp
      with_reducible rfl
    rotate_left
    · simp only [Act.put, List.setIfInBounds_toArray, List.set_cons_zero, List.set_cons_succ]
      rfl
    refine pure_ (i := 17) (N := some 47) (v := ?_) (a' := ?_) #[true, true, true, true, true, true, true, true, true, true, true, true, true, true, true, true, true, true, false] rfl rfl (by kernel_rfl) (fun _ _ _ h => h) (Or.inl ⟨by rfl, ?_⟩) ?_ ?_
    rotate_left
    · intro w'
      go_simp
      with_reducible rfl
    rotate_left
    · simp only [Act.put, List.setIfInBounds_toArray, List.set_cons_zero, List.set_cons_succ]
      rfl
    refine last_ (i := 18) (N := none) #[true, true, true, true, true, true, true, true, true, true, true, true, true, true, true, true, true, true, true] rfl rfl (by kernel_rfl) (by decide) (fun K hK => ?_)
    obtain ⟨A5, c5, rfl⟩ := Kd.R_slice hV11.out
    have hB9 := Aside0.mk (blk_below HG2.out hB11.out)
    have hs : w21.cell? ⟨R, 3, none⟩ = some (.slice A L.length c) := (blk_cell hB9.out 3).trans (by first | rfl | exact RK.c3 _ _ _ _ _)
    have hfs := blk_frozen hB9.out 3
    refine skip_ (w1 := ?_) (by rfl) rfl ?_ ?_
    rotate_left
    · go_simp
      rfl
    refine hK.out _ _ ?_
    clear hK K
    refine done_ (by kernel_rfl) ?_
    go_wp2
    go_ret
    exact ⟨rfl, rput_end HM2.out hBw.out hB11.out hV11.out (by simp) (by simp)⟩
set_option maxHeartbeats 4000000 in
set_option maxRecDepth 100000 in
theorem rput_arg (h : RS N w R v ag rm ct L) (id cl : Int) (hc : cl < 0 ∨ 8 ≤ cl) :
    Calls Try.prog 44 #[.pointer (some ⟨R, 0, none⟩), .int .i64 id, .int .i64 cl] w fun e w' => e = .returned (.int .i64 1) ∧ Aside0 (RGo N w R v w' ag rm ct L) := by
  have H := Aside0.mk h
  clear h
  by_cases c1 : cl < 0
  · clear hc
    go_enter Try.func44, Try.ntmps44
    go_wp2
    go_ret
    exact ⟨rfl, ⟨v, H.out, Fr.refl _ _, .inl rfl⟩⟩
  · have c2 : 8 ≤ cl := by omega
    clear hc
    go_enter Try.func44, Try.ntmps44
    go_wp2
    go_ret
    exact ⟨rfl, ⟨v, H.out, Fr.refl _ _, .inl rfl⟩⟩
set_option maxHeartbeats 4000000 in
set_option maxRecDepth 100000 in
theorem rput_twice (h : RS N w R v ag rm ct L) (id cl : Int) (hc1 : 0 ≤ cl) (hc2 : cl < 8) (k : Nat) (hp : place L id = (k : Int)) (hl : L.length ≤ 1000) :
    Calls Try.prog 44 #[.pointer (some ⟨R, 0, none⟩), .int .i64 id, .int .i64 cl] w fun e w' => e = .returned (.int .i64 8) ∧ Aside0 (RGo N w R v w' ag rm ct L) := by
  have hf := rfind_calls h id (by omega)
  rw [hp] at hf
  have H := Aside0.mk h
  have hk : 0 ≤ (k : Int) := by omega
  clear h
  go_enter Try.func44, Try.ntmps44
  go_wp2_with (go_at_call 62; refine hf.mono ?_; rintro e w1 ⟨rfl, hb1⟩; clear hf)
  go_ret
  exact ⟨rfl, ⟨v, H.out.step hb1, Fr.of_below hb1, .inl rfl⟩⟩
set_option maxHeartbeats 4000000 in
set_option maxRecDepth 100000 in
theorem rput_full (h : RS N w R v ag rm ct L) (id cl : Int) (hc1 : 0 ≤ cl) (hc2 : cl < 8) (hp : place L id = -1) (hl : L.length ≤ 1000) (hr : rm ≤ (L.length : Int)) :
    Calls Try.prog 44 #[.pointer (some ⟨R, 0, none⟩), .int .i64 id, .int .i64 cl] w fun e w' => e = .returned (.int .i64 10) ∧ Aside0 (RGo N w R v w' ag rm ct L) := by
  have hf := rfind_calls h id (by omega)
  rw [hp] at hf
  obtain ⟨A, c, rfl, hc, hC⟩ := Kd.R_reads h.r
  have H := Aside0.mk h
  clear h hC
  go_enter Try.func44, Try.ntmps44
  go_wp2_with (go_at_call 62; refine hf.mono ?_; rintro e w1 ⟨rfl, hb1⟩; clear hf)
  have HM := Aside0.mk (H.out.step hb1)
  have c1 : w1.cell? ⟨R, 1, none⟩ = some (.int .i64 rm) := (blk_cell HM.out.g 1).trans (RK.c1 _ _ _ _ _)
  have c3 : w1.cell? ⟨R, 3, none⟩ = some (.slice A L.length c) := (blk_cell HM.out.g 3).trans (RK.c3 _ _ _ _ _)
  go_region_held3 (fun w' => w'.cell? ⟨R, 3, none⟩ = some (.slice A L.length c) ∧ w'.cell? ⟨R, 1, none⟩ = some (.int .i64 rm)) (go_keep) (fail)
  have hbd := below_drew1 (Below.refl w1.heap.size w1)
  go_wp2
  go_ret
  exact ⟨rfl, ⟨_, HM.out.step hbd, Fr.of_below (below_step hb1 hbd), .inl rfl⟩⟩
theorem rput_calls (h : RS N w R v ag rm ct L) (id cl : Int) (hl : L.length ≤ 1000) :
    Calls Try.prog 44 #[.pointer (some ⟨R, 0, none⟩), .int .i64 id, .int .i64 cl] w fun e w' => e = .returned (.int .i64 (putE L rm id cl)) ∧ Aside0 (RGo N w R v w' ag rm ct (rputL rm ct L id cl)) := by
  unfold rputL
  by_cases c1 : cl < 0 ∨ 8 ≤ cl
  · have e : putE L rm id cl = 1 := by unfold putE; rw [if_pos c1]
    rw [e, if_neg (by decide)]
    exact rput_arg h id cl c1
  · rcases place_cases L id with ⟨h1, h2⟩ | ⟨k, h1, h2, h3⟩
    · by_cases c3 : rm ≤ (L.length : Int)
      · have e : putE L rm id cl = 10 := by unfold putE; rw [if_neg c1, if_neg (by omega), if_pos c3]
        rw [e, if_neg (by decide)]
        exact rput_full h id cl (by omega) (by omega) h1 hl c3
      · have e : putE L rm id cl = 0 := by unfold putE; rw [if_neg c1, if_neg (by omega), if_neg c3]
        rw [e, if_pos rfl]
        exact rput_yes h id cl (by omega) (by omega) h1 hl (by omega)
    · have e : putE L rm id cl = 8 := by unfold putE; rw [if_neg c1, if_pos (by omega)]
      rw [e, if_neg (by decide)]
      exact rput_twice h id cl (by omega) (by omega) k h2 hl
end
end Go.Proofs.Ytfkebbkfmchnaaa.Ln
