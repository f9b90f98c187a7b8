/- The reference's List as a call. Conditions: the queue lies in memory as told. -/
import Derived.Test.YtfkebbkfmchnaaaQru
import Derived.Test.YtfkebbkfmchnaaaQrt
import Derived.Deep.DeepCutAuto
import Derived.Deep.CutBlock
namespace Go.Proofs.Ytfkebbkfmchnaaa.Ln
open Go.RowKit Go.Proofs.Ytfkebbkfmchnaaa.PBase Go.Proofs.Ytfkebbkfmchnaaa.PRef Go.Proofs.Ytfkebbkfmchnaaa.Cat Go.Proofs.Ytfkebbkfmchnaaa.Heap Go.Proofs.YtfkebbkfmchnaaaW.PrintWords Go.Proofs.YtfkebbkfmchnaaaW.PrintLast Go.Proofs.YtfkebbkfmchnaaaW.PrintMore
set_option linter.unusedVariables false
theorem own_apart3 {v v1 : Value} {W : World} {g : Nat} (h : v1.ownBlock = v.ownBlock ∨ ∃ b, v1.ownBlock = some b ∧ W.heap.size ≤ b) (hv : v.ownBlock ≠ some g) (hg : g < W.heap.size) : ∀ b, v1.ownBlock = some b → b ≠ g := by
  intro b hb e
  subst e
  rcases h with h | ⟨d, h, hd⟩
  · exact hv (h.symm.trans hb)
  · rw [hb] at h
    have : b = d := Option.some.inj h
    omega
theorem run_rows3 {W : World} {base : Nat} {ok : Nat → Prop} {v : Value} {xs : List S77} (ty : TypeId) (A : Option Addr) (m c : Nat) (ys : List S77) (HO : Kd.R k77 77 W base ok v xs) (HR : Kd.C k77 W A m ys) (hbase : base ≤ W.heap.size) (hl : (xs.length + m) * 24 ≤ 140737488355328) :
    ∃ v1 w1, (Builtin.append_ #[63, 63] ty #[v, .slice A m c]).run Try.prog W = .ok v1 w1 ∧ Kd.R k77 77 w1 base (fun _ => True) v1 (xs ++ ys) ∧ Below base W w1 ∧ Fr (fun k => v.ownBlock = some k) W w1 ∧ (v1.ownBlock = v.ownBlock ∨ ∃ b, v1.ownBlock = some b ∧ W.heap.size ≤ b) := by
  obtain ⟨i0, hi, hzz⟩ := Option.map_eq_some_iff.1 Cat.info77
  simp only [Prod.mk.injEq] at hzz
  obtain ⟨hz0, hz1, hz2⟩ := hzz
  have hyl : ys.length = m := HR.1
  have hown := own_of_R HO
  rcases A with _ | ad
  · have h0 : m = 0 := by
      rcases Nat.eq_zero_or_pos m with h0 | h0
      · exact h0
      · obtain ⟨ad, h, _⟩ := HR.2.2 h0
        cases h
    subst h0
    obtain rfl : ys = [] := List.eq_nil_of_length_eq_zero hyl
    refine ⟨v, W, ?_, by rw [List.append_nil]; exact Kd.R_mono HO (fun _ _ => trivial), Below.refl _ _, Fr.refl _ _, .inl rfl⟩
    rcases hown.2 with ⟨rfl, hn⟩ | ⟨g, cap, cur, rfl, _, _, hnc, _⟩
    · simp [Builtin.append_, run_underlying Try.underlying63, sizeOf, typeInfo, hi, Builtin.lenOf, Builtin.firstCells]
    · simp [Builtin.append_, run_underlying Try.underlying63, sizeOf, typeInfo, hi, Builtin.lenOf, Builtin.firstCells, hnc, storeCells]
  · obtain ⟨v1, w1, hrun, h2, hg, _, hat⟩ := run_append_own_at (P := Try.prog) W base 63 ty 77 i0 _ 3 24 Try.underlying63 hi hz0 hz1 hz2 rfl (by decide) v xs.length (flat xs) hown ad m c (flat ys) (by rw [flat_len, hyl]) (C_cells HR) flat_one (by simp only [maxLen]; omega) hl hbase
    refine ⟨v1, w1, hrun, R_of_own ?_, ⟨hg.os, hg.tape, hg.output, hg.size, fun k hk => hg.block k (Nat.lt_of_lt_of_le hk hbase) (fun he => by have := own_base hown k he.symm; omega)⟩, Fr.of_grown hg (fun k e => e), ?_⟩
    · rw [← flat_append, ← hyl, ← List.length_append] at h2
      exact h2
    · rcases hat with hat | hat
      · exact .inl hat
      · exact .inr ⟨_, hat, Nat.le_refl _⟩
section
variable {ops : Array Oper} {o : Oper} {a : Act} {Q : Exit → Act → World → Prop} {K : Act → World → Prop}
theorem step_rows3 {W : World} (base : Nat) {ok : Nat → Prop} (hw : Region.wanted o (yielded ops a.tmps) = true) (s x : Operand) (ho : o.op = .call { callee := .builtin .append, args := #[s, x], argTypes := #[63, 63] })
    (v : Value) (xs : List S77) (A : Option Addr) (m c : Nat) (ys : List S77) (hs : a.eval s = v) (hx : a.eval x = .slice A m c) (HO : Kd.R k77 77 W base ok v xs) (HR : Kd.C k77 W A m ys) (hbase : base ≤ W.heap.size) (hl : (xs.length + m) * 24 ≤ 140737488355328)
    (h : ∀ v1 w1, Kd.R k77 77 w1 base (fun _ => True) v1 (xs ++ ys) → Below base W w1 → Fr (fun k => v.ownBlock = some k) W w1 → (v1.ownBlock = v.ownBlock ∨ ∃ b, v1.ownBlock = some b ∧ W.heap.size ≤ b) → K (a.put o.dst v1) w1) :
    if Region.wanted o (yielded ops a.tmps) = true then Oper.wp Try.prog o a W K Q else K (a.put o.dst undef) W := by
  obtain ⟨v1, w1, hr, h1, h2, h3, h4⟩ := run_rows3 o.type A m c ys HO HR hbase hl
  refine event_step hw ?_ (h v1 w1 h1 h2 h3 h4)
  unfold execOp
  simp only [ho, resolve, invoke, builtin, Sem.run_bind, Sem.run_pure, Result.andThen_ok, List.map_toArray, List.map_cons, List.map_nil, hs, hx, hr]
end
section
variable {N : Nat} {w : World} {R : RK} {v : Value} {ag rm ct : Int} {L : List S77}
theorem rlist_end {W2 w4 : World} {L2 L3 : List S77} {A5 : Option Addr} {c5 n5 g : Nat} (hb : Below w.heap.size w W2) (hb4 : Below W2.heap.size W2 w4) (hV : Kd.R k77 77 w4 W2.heap.size (fun _ => True) (.slice A5 L2.length c5) L2) (hX : w4.heap[g]? = some (.cells #[.int .i64 0, .int .i64 0, .int .i64 0, .slice none 0 0] 90 (0, 0))) (hO : ∀ b, Value.ownBlock (.slice A5 L2.length c5) = some b → b ≠ g) (hgW : W2.heap.size ≤ g) (hn : L2.length = n5) (hL : L2 = L3) :
    RS w.heap.size ((((w4.setCell ⟨g, 0, none⟩ (.int .i64 ag)).setCell ⟨g, 1, none⟩ (.int .i64 0)).setCell ⟨g, 2, none⟩ (.int .i64 0)).setCell ⟨g, 3, none⟩ (.slice A5 n5 c5)) (.small g) (.slice A5 n5 c5) ag 0 0 L3 ∧ Below w.heap.size w ((((w4.setCell ⟨g, 0, none⟩ (.int .i64 ag)).setCell ⟨g, 1, none⟩ (.int .i64 0)).setCell ⟨g, 2, none⟩ (.int .i64 0)).setCell ⟨g, 3, none⟩ (.slice A5 n5 c5)) := by
  subst hn hL
  have hset : Fr (fun k => k = g) w4 ((((w4.setCell ⟨g, 0, none⟩ (.int .i64 ag)).setCell ⟨g, 1, none⟩ (.int .i64 0)).setCell ⟨g, 2, none⟩ (.int .i64 0)).setCell ⟨g, 3, none⟩ (.slice A5 L2.length c5)) :=
    Fr.then_ (Fr.then_ (Fr.then_ (Fr.set _ g 0 _) (Fr.set _ g 1 _) (fun _ h => .inl h)) (Fr.set _ g 2 _) (fun _ h => .inl h)) (Fr.set _ g 3 _) (fun _ h => .inl h)
  have hww := hb.size
  have hR := Kd.R_mono (Kd.R_tight2 rfl (Kd.R_lower hV hww)) (ok' := fun k => Value.ownBlock (.slice A5 L2.length c5) = some k ∧ k ≠ g) (fun k hk => ⟨hk.1.symm, hO k hk.1.symm⟩)
  refine ⟨⟨blk_put (blk_put (blk_put (blk_put hX 0 _ rfl) 1 _ rfl) 2 _ rfl) 3 _ rfl, Kd.R_kept hR (S := fun k => k = g) ⟨hset.size, fun i hi hn => hset.blk i hi hn⟩ (fun k hk => hk.2), show w.heap.size ≤ g by omega⟩, ?_⟩
  exact (Fr.then_ (Fr.of_below (F := fun k => w.heap.size ≤ k) (below_step hb hb4)) hset (fun k hk => .inl (by omega))).below (Nat.le_refl _) (fun k h => h)
theorem C_two (W : World) (x : S77) : Kd.C k77 ((W.alloc (.cells #[.int .i64 x.f0, .int .i64 x.f1, .int .i64 x.f2] 77)).alloc (.cells #[.int .i64 x.f0, .int .i64 x.f1, .int .i64 x.f2] 77)) (some ⟨W.heap.size + 1, 0, none⟩) 1 [x] := by
  have h := C_one (w := W.alloc (.cells #[.int .i64 x.f0, .int .i64 x.f1, .int .i64 x.f2] 77)) x
  have e : (W.alloc (.cells #[.int .i64 x.f0, .int .i64 x.f1, .int .i64 x.f2] 77)).heap.size = W.heap.size + 1 := by simp
  rw [e] at h
  exact h
set_option maxHeartbeats 4000000 in
set_option maxRecDepth 100000 in
theorem rlist_calls (h : RS N w R v ag rm ct L) (M : List S77) (hp : M.Perm L) (hs : Sorted ag M) (nd : (ids M).Nodup) (hl : L.length ≤ 1000) :
    Calls Try.prog 54 #[.pointer (some ⟨R, 0, none⟩)] w fun e w' => ∃ v0, e = .returned v0 ∧ Aside0 (Kd.R k77 77 w' w.heap.size (fun _ => True) v0 M ∧ Below w.heap.size w w') := by
  obtain ⟨A, c, rfl, hc, hC⟩ := Kd.R_reads h.r
  have HC := Aside0.mk hC
  have HLL : Aside0 (L.length ≤ 1000) := ⟨hl⟩
  have H := Aside0.mk h
  have HM := Aside0.mk (And.intro hp (And.intro hs nd))
  clear h hC hp hs nd
  go_enter Try.func54, Try.ntmps54
  go_upto_region 1 with (fail)
  go_cut [3] (fun v3 wx => ∃ (g : Nat) (v : Value), v3 = .pointer (some ⟨g, 0, none⟩) ∧ Aside0 (RS w.heap.size wx (.small g) v ag 0 0 L) ∧ Aside0 (Below w.heap.size w wx))
  case first =>
    as_aux_lemma =>
    have c0 : w.cell? ⟨R, 0, none⟩ = some (.int .i64 ag) := (blk_cell H.out.g 0).trans (RK.c0 _ _ _ _ _)
    have c3 : w.cell? ⟨R, 3, none⟩ = some (.slice A L.length c) := (blk_cell H.out.g 3).trans (RK.c3 _ _ _ _ _)
    refine start_ (n := 13) (S := fun w' => w'.cell? ⟨R, 0, none⟩ = some (.int .i64 ag) ∧ w'.cell? ⟨R, 3, none⟩ = some (.slice A L.length c)) (ds := [12]) #[false, false, false, false, false, false, false, false, false, false, false, false, false] (by kernel_rfl) rfl rfl ⟨c0, c3⟩ (fun hHeld => ?_)
    have hb2 := below_drew1 (Below.refl w.heap.size w)
    have HM2 := Aside0.mk (H.out.step hb2)
    have hBw := Aside0.mk hb2
    generalize w.drew = W2 at hHeld HM2 hBw ⊢
    clear c0 c3 hb2
    have HC2 := Aside0.mk (Kd.C_below HC.out hBw.out)
    have hB0 := Aside0.mk (Below.refl W2.heap.size W2)
    have hlt := blk_lt HM2.out.g
    have kp : Aside0 (∀ w', Below W2.heap.size W2 w' → w'.cell? ⟨R, 0, none⟩ = some (.int .i64 ag) ∧ w'.cell? ⟨R, 3, none⟩ = some (.slice A L.length c)) := ⟨fun w' hb => ⟨(hb.cell (p := ⟨R, 0, none⟩) hlt).trans hHeld.1, (hb.cell (p := ⟨R, 3, none⟩) hlt).trans hHeld.2⟩⟩
    clear hlt
    refine pure_ (i := 0) (N := some 7) (v := ?_) (a' := ?_) #[true, false, false, false, false, false, false, false, false, false, false, false, false] rfl rfl (by kernel_rfl) (fun _ _ _ h => h) (Or.inl ⟨by rfl, ?_⟩) ?_ ?_
    rotate_left
    · intro w'
      go_simp
      with_reducible rfl
    rotate_left
    · simp only [Act.put, List.setIfInBounds_toArray, List.set_cons_zero, List.set_cons_succ]
      rfl
    refine pure_ (i := 1) (N := some 8) (v := ?_) (a' := ?_) #[true, true, false, false, false, false, false, false, false, false, false, false, false] rfl rfl (by kernel_rfl) (fun _ _ _ h => h) (Or.inl ⟨by rfl, ?_⟩) ?_ ?_
    rotate_left
    · intro w'
      go_simp
      with_reducible rfl
    rotate_left
    · simp only [Act.put, List.setIfInBounds_toArray, List.set_cons_zero, List.set_cons_succ]
      rfl
    refine pure_ (i := 2) (N := some 9) (v := ?_) (a' := ?_) #[true, true, true, false, false, false, false, false, false, false, false, false, false] rfl rfl (by kernel_rfl) (fun _ _ _ h => h) (Or.inl ⟨by rfl, ?_⟩) ?_ ?_
    rotate_left
    · intro w'
      go_simp
      with_reducible rfl
    rotate_left
    · simp only [Act.put, List.setIfInBounds_toArray, List.set_cons_zero, List.set_cons_succ]
      rfl
    refine take_ (i := 3) (N := some 10) (v := ?_) (a' := ?_) #[true, true, true, true, false, false, false, false, false, false, false, false, false] rfl rfl (by kernel_rfl) (fun _ _ _ h => h) (Or.inl ⟨by rfl, ?_⟩) hHeld ?_ ?_
    rotate_left
    · rintro w' ⟨s0, s1⟩
      go_simp
      with_reducible rfl
    rotate_left
    · simp only [Act.put, List.setIfInBounds_toArray, List.set_cons_zero, List.set_cons_succ]
      rfl
    refine pure_ (i := 5) (N := some 12) (v := ?_) (a' := ?_) #[true, true, true, true, false, true, false, false, false, false, false, false, false] rfl rfl (by kernel_rfl) (fun _ _ _ h => h) (Or.inl ⟨by rfl, ?_⟩) ?_ ?_
    rotate_left
    · intro w'
      go_simp
      with_reducible rfl
    rotate_left
    · simp only [Act.put, List.setIfInBounds_toArray, List.set_cons_zero, List.set_cons_succ]
      rfl
    refine pure_ (i := 6) (N := some 13) (v := ?_) (a' := ?_) #[true, true, true, true, false, true, true, false, false, false, false, false, false] rfl rfl (by kernel_rfl) (fun _ _ _ h => h) (Or.inl ⟨by rfl, ?_⟩) ?_ ?_
    rotate_left
    · intro w'
      go_simp
      with_reducible rfl
    rotate_left
    · simp only [Act.put, List.setIfInBounds_toArray, List.set_cons_zero, List.set_cons_succ]
      rfl
    refine pure_ (i := 7) (N := some 14) (v := ?_) (a' := ?_) #[true, true, true, true, false, true, true, true, false, false, false, false, false] rfl rfl (by kernel_rfl) (fun _ _ _ h => h) (Or.inl ⟨by rfl, ?_⟩) ?_ ?_
    rotate_left
    · intro w'
      go_simp
      with_reducible rfl
    rotate_left
    · simp only [Act.put, List.setIfInBounds_toArray, List.set_cons_zero, List.set_cons_succ]
      rfl
    refine take_ (i := 8) (N := some 15) (v := ?_) (a' := ?_) #[true, true, true, true, false, true, true, true, true, false, false, false, false] rfl rfl (by kernel_rfl) (fun _ _ _ h => h) (Or.inl ⟨by rfl, ?_⟩) hHeld ?_ ?_
    rotate_left
    · rintro w' ⟨s0, s1⟩
      go_simp
      with_reducible rfl
    rotate_left
    · simp only [Act.put, List.setIfInBounds_toArray, List.set_cons_zero, List.set_cons_succ]
      rfl
    refine two_ (i := 4) (j := 11) (Ni := some 11) (Nj := some 3) #[true, true, true, true, true, true, true, true, true, false, false, false, false] #[true, true, true, true, false, true, true, true, true, false, false, true, false] rfl rfl rfl rfl (by kernel_rfl) (by decide) (by decide) (fun K hK => ?_) (fun K hK => ?_)
    · refine event_step (v := .slice (some ⟨W2.heap.size, 0, none⟩) 0 0) (w1 := W2.alloc (.cells #[] 77)) (by rfl) (by go_simp) ?_
      have hB1 := Aside0.mk (hB0.out.trans (below_lower (below_alloc (Below.refl W2.heap.size W2) (.cells #[] 77)) hB0.out.size))
      have hV1 := Aside0.mk (Kd.R_lower (R_lit0 W2) hB0.out.size)
      refine hK.out _ _ (kp.out _ hB1.out) (fun hHeld => ?_)
      clear hK K
      refine norm_ (a' := ?_) ?_ ?_
      rotate_left
      · show Act.put _ (some 11) _ = _
        simp only [Act.put, List.setIfInBounds_toArray, List.set_cons_zero, List.set_cons_succ]
        rfl
      generalize hq1 : W2.alloc (.cells #[] 77) = w11 at hB1 hHeld hV1 ⊢
      clear hq1
      refine two_ (i := 9) (j := 11) (Ni := some 16) (Nj := some 3) #[true, true, true, true, true, true, true, true, true, true, false, false, false] #[true, true, true, true, true, true, true, true, true, false, false, true, false] rfl rfl rfl rfl (by kernel_rfl) (by decide) (by decide) (fun K hK => ?_) (fun K hK => ?_)
      · refine step_rows3 (K := _) W2.heap.size (by rfl) (.tmp 11) (.tmp 15) (by rfl) (.slice (some ⟨W2.heap.size, 0, none⟩) 0 0) [] A L.length c L (by rfl) (by rfl) hV1.out (Kd.C_below HC2.out hB1.out) hB1.out.size (by simp only [List.length_nil]; have := HLL.out; omega) ?_
        intro v2 w12 hv2 hb2 hf2 hat2
        have hB2 := Aside0.mk (hB1.out.trans hb2)
        have hV2 := Aside0.mk hv2
        refine hK.out _ _ (kp.out _ hB2.out) (fun hHeld => ?_)
        clear hK K
        refine norm_ (a' := ?_) ?_ ?_
        rotate_left
        · show Act.put _ (some 16) _ = _
          simp only [Act.put, List.setIfInBounds_toArray, List.set_cons_zero, List.set_cons_succ]
          rfl
        clear hv2 hb2 hf2 hat2
        obtain ⟨A5, c5, rfl⟩ := Kd.R_slice hV2.out
        refine pure_ (i := 10) (N := some 17) (v := ?_) (a' := ?_) #[true, true, true, true, true, true, true, true, true, true, true, false, false] rfl rfl (by kernel_rfl) (fun _ _ _ h => h) (Or.inl ⟨by rfl, ?_⟩) ?_ ?_
        rotate_left
        · intro w'
          go_simp
          with_reducible rfl
        rotate_left
        · simp only [Act.put, List.setIfInBounds_toArray, List.set_cons_zero, List.set_cons_succ]
          rfl
        refine one_ (i := 11) (N := some 3) #[true, true, true, true, true, true, true, true, true, true, true, true, false] rfl rfl (by kernel_rfl) (by decide) (fun K hK => ?_)
        refine event_step (v := .pointer (some ⟨w12.heap.size, 0, none⟩)) (w1 := w12.alloc (.cells #[.int .i64 0, .int .i64 0, .int .i64 0, .slice none 0 0] 90)) (by rfl) (by go_simp) ?_
        have hB3 := Aside0.mk (hB2.out.trans (below_lower (below_alloc (Below.refl w12.heap.size w12) (.cells #[.int .i64 0, .int .i64 0, .int .i64 0, .slice none 0 0] 90)) hB2.out.size))
        have hX3 := Aside0.mk (blk_new w12 (.cells #[.int .i64 0, .int .i64 0, .int .i64 0, .slice none 0 0] 90))
        have hW3 : Aside0 (W2.heap.size ≤ w12.heap.size) := ⟨hB2.out.size⟩
        have hO3 : Aside0 (∀ b, Value.ownBlock (.slice A5 ([] ++ L).length c5) = some b → b ≠ w12.heap.size) := ⟨fun b hb => by have := own_lt (own_of_R hV2.out) b hb; omega⟩
        have hV3 := Aside0.mk (Kd.R_below hV2.out (below_alloc (Below.refl _ _) (.cells #[.int .i64 0, .int .i64 0, .int .i64 0, .slice none 0 0] 90)))
        refine hK.out _ _ (kp.out _ hB3.out) (fun hHeld => ?_)
        clear hK K
        refine norm_ (a' := ?_) ?_ ?_
        rotate_left
        · show Act.put _ (some 3) _ = _
          simp only [Act.put, List.setIfInBounds_toArray, List.set_cons_zero, List.set_cons_succ]
          rfl
        generalize hq3 : w12.alloc (.cells #[.int .i64 0, .int .i64 0, .int .i64 0, .slice none 0 0] 90) = w13 at hB3 hHeld hX3 hV3 ⊢
        clear hq3
        refine last_ (i := 12) (N := none) #[true, true, true, true, true, true, true, true, true, true, true, true, true] rfl rfl (by kernel_rfl) (by decide) (fun K hK => ?_)
        have hs0 := (blk_cell hX3.out 0).trans rfl
        have hf0 := blk_frozen hX3.out 0
        have hs1 := (blk_cell hX3.out 1).trans rfl
        have hf1 := blk_frozen hX3.out 1
        have hs2 := (blk_cell hX3.out 2).trans rfl
        have hf2 := blk_frozen hX3.out 2
        have hs3 := (blk_cell hX3.out 3).trans rfl
        have hf3 := blk_frozen hX3.out 3
        refine skip_ (w1 := ?_) (by rfl) rfl ?_ ?_
        rotate_left
        · go_simp
          rfl
        refine hK.out _ _ ?_
        clear hK K
        refine done_ (by kernel_rfl) ?_
        go_wp2_with (fail)
        go_meet
        have hE := rlist_end (ag := ag) hBw.out hB3.out hV3.out hX3.out hO3.out hW3.out (n5 := L.length) (L3 := L) (by simp) (by simp)
        exact ⟨_, _, rfl, ⟨hE.1⟩, ⟨hE.2⟩⟩
      · refine event_step (v := .pointer (some ⟨w11.heap.size, 0, none⟩)) (w1 := w11.alloc (.cells #[.int .i64 0, .int .i64 0, .int .i64 0, .slice none 0 0] 90)) (by rfl) (by go_simp) ?_
        have hB4 := Aside0.mk (hB1.out.trans (below_lower (below_alloc (Below.refl w11.heap.size w11) (.cells #[.int .i64 0, .int .i64 0, .int .i64 0, .slice none 0 0] 90)) hB1.out.size))
        have hX4 := Aside0.mk (blk_new w11 (.cells #[.int .i64 0, .int .i64 0, .int .i64 0, .slice none 0 0] 90))
        have hW4 : Aside0 (W2.heap.size ≤ w11.heap.size) := ⟨hB1.out.size⟩
        have hN4 : Aside0 (W2.heap.size ≠ w11.heap.size) := ⟨by have := own_lt (own_of_R hV1.out) _ rfl; simp only at this; omega⟩
        have hV4 := Aside0.mk (Kd.R_below hV1.out (below_alloc (Below.refl _ _) (.cells #[.int .i64 0, .int .i64 0, .int .i64 0, .slice none 0 0] 90)))
        refine hK.out _ _ (kp.out _ hB4.out) (fun hHeld => ?_)
        clear hK K
        refine norm_ (a' := ?_) ?_ ?_
        rotate_left
        · show Act.put _ (some 3) _ = _
          simp only [Act.put, List.setIfInBounds_toArray, List.set_cons_zero, List.set_cons_succ]
          rfl
        generalize hq4 : w11.alloc (.cells #[.int .i64 0, .int .i64 0, .int .i64 0, .slice none 0 0] 90) = w14 at hB4 hHeld hX4 hV4 ⊢
        clear hq4
        refine one_ (i := 9) (N := some 16) #[true, true, true, true, true, true, true, true, true, true, false, true, false] rfl rfl (by kernel_rfl) (by decide) (fun K hK => ?_)
        refine step_rows3 (K := _) W2.heap.size (by rfl) (.tmp 11) (.tmp 15) (by rfl) (.slice (some ⟨W2.heap.size, 0, none⟩) 0 0) [] A L.length c L (by rfl) (by rfl) hV4.out (Kd.C_below HC2.out hB4.out) hB4.out.size (by simp only [List.length_nil]; have := HLL.out; omega) ?_
        intro v5 w15 hv5 hb5 hf5 hat5
        have hB5 := Aside0.mk (hB4.out.trans hb5)
        have hV5 := Aside0.mk hv5
        have hX5 := Aside0.mk ((hf5.blk _ (blk_lt hX4.out) (fun e => hN4.out (Option.some.inj e))).trans hX4.out)
        have hO5 : Aside0 (∀ b, Value.ownBlock v5 = some b → b ≠ w11.heap.size) := ⟨own_apart3 hat5 (fun e => hN4.out (Option.some.inj e)) (blk_lt hX4.out)⟩
        refine hK.out _ _ (kp.out _ hB5.out) (fun hHeld => ?_)
        clear hK K
        refine norm_ (a' := ?_) ?_ ?_
        rotate_left
        · show Act.put _ (some 16) _ = _
          simp only [Act.put, List.setIfInBounds_toArray, List.set_cons_zero, List.set_cons_succ]
          rfl
        clear hv5 hb5 hf5 hat5
        obtain ⟨A5, c5, rfl⟩ := Kd.R_slice hV5.out
        refine pure_ (i := 10) (N := some 17) (v := ?_) (a' := ?_) #[true, true, true, true, true, true, true, true, true, true, true, true, false] rfl rfl (by kernel_rfl) (fun _ _ _ h => h) (Or.inl ⟨by rfl, ?_⟩) ?_ ?_
        rotate_left
        · intro w'
          go_simp
          with_reducible rfl
        rotate_left
        · simp only [Act.put, List.setIfInBounds_toArray, List.set_cons_zero, List.set_cons_succ]
          rfl
        refine last_ (i := 12) (N := none) #[true, true, true, true, true, true, true, true, true, true, true, true, true] rfl rfl (by kernel_rfl) (by decide) (fun K hK => ?_)
        have hs0 := (blk_cell hX5.out 0).trans rfl
        have hf0 := blk_frozen hX5.out 0
        have hs1 := (blk_cell hX5.out 1).trans rfl
        have hf1 := blk_frozen hX5.out 1
        have hs2 := (blk_cell hX5.out 2).trans rfl
        have hf2 := blk_frozen hX5.out 2
        have hs3 := (blk_cell hX5.out 3).trans rfl
        have hf3 := blk_frozen hX5.out 3
        refine skip_ (w1 := ?_) (by rfl) rfl ?_ ?_
        rotate_left
        · go_simp
          rfl
        refine hK.out _ _ ?_
        clear hK K
        refine done_ (by kernel_rfl) ?_
        go_wp2_with (fail)
        go_meet
        have hE := rlist_end (ag := ag) hBw.out hB5.out hV5.out hX5.out hO5.out hW4.out (n5 := L.length) (L3 := L) (by simp) (by simp)
        exact ⟨_, _, rfl, ⟨hE.1⟩, ⟨hE.2⟩⟩
    · refine event_step (v := .pointer (some ⟨W2.heap.size, 0, none⟩)) (w1 := W2.alloc (.cells #[.int .i64 0, .int .i64 0, .int .i64 0, .slice none 0 0] 90)) (by rfl) (by go_simp) ?_
      have hB6 := Aside0.mk (hB0.out.trans (below_lower (below_alloc (Below.refl W2.heap.size W2) (.cells #[.int .i64 0, .int .i64 0, .int .i64 0, .slice none 0 0] 90)) hB0.out.size))
      have hX6 := Aside0.mk (blk_new W2 (.cells #[.int .i64 0, .int .i64 0, .int .i64 0, .slice none 0 0] 90))
      have hW6 : Aside0 (W2.heap.size ≤ W2.heap.size) := ⟨hB0.out.size⟩
      refine hK.out _ _ (kp.out _ hB6.out) (fun hHeld => ?_)
      clear hK K
      refine norm_ (a' := ?_) ?_ ?_
      rotate_left
      · show Act.put _ (some 3) _ = _
        simp only [Act.put, List.setIfInBounds_toArray, List.set_cons_zero, List.set_cons_succ]
        rfl
      generalize hq6 : W2.alloc (.cells #[.int .i64 0, .int .i64 0, .int .i64 0, .slice none 0 0] 90) = w16 at hB6 hHeld hX6 ⊢
      clear hq6
      refine one_ (i := 4) (N := some 11) #[true, true, true, true, true, true, true, true, true, false, false, true, false] rfl rfl (by kernel_rfl) (by decide) (fun K hK => ?_)
      refine event_step (v := .slice (some ⟨w16.heap.size, 0, none⟩) 0 0) (w1 := w16.alloc (.cells #[] 77)) (by rfl) (by go_simp) ?_
      have hB7 := Aside0.mk (hB6.out.trans (below_lower (below_alloc (Below.refl w16.heap.size w16) (.cells #[] 77)) hB6.out.size))
      have hV7 := Aside0.mk (Kd.R_lower (R_lit0 w16) hB6.out.size)
      have hN7 : Aside0 (w16.heap.size ≠ W2.heap.size) := ⟨by have := blk_lt hX6.out; omega⟩
      have hX7 := Aside0.mk (blk_below hX6.out (below_alloc (Below.refl _ _) (.cells #[] 77)))
      refine hK.out _ _ (kp.out _ hB7.out) (fun hHeld => ?_)
      clear hK K
      refine norm_ (a' := ?_) ?_ ?_
      rotate_left
      · show Act.put _ (some 11) _ = _
        simp only [Act.put, List.setIfInBounds_toArray, List.set_cons_zero, List.set_cons_succ]
        rfl
      generalize hq7 : w16.alloc (.cells #[] 77) = w17 at hB7 hHeld hV7 hX7 ⊢
      clear hq7
      refine one_ (i := 9) (N := some 16) #[true, true, true, true, true, true, true, true, true, true, false, true, false] rfl rfl (by kernel_rfl) (by decide) (fun K hK => ?_)
      refine step_rows3 (K := _) W2.heap.size (by rfl) (.tmp 11) (.tmp 15) (by rfl) (.slice (some ⟨w16.heap.size, 0, none⟩) 0 0) [] A L.length c L (by rfl) (by rfl) hV7.out (Kd.C_below HC2.out hB7.out) hB7.out.size (by simp only [List.length_nil]; have := HLL.out; omega) ?_
      intro v8 w18 hv8 hb8 hf8 hat8
      have hB8 := Aside0.mk (hB7.out.trans hb8)
      have hV8 := Aside0.mk hv8
      have hX8 := Aside0.mk ((hf8.blk _ (blk_lt hX7.out) (fun e => hN7.out (Option.some.inj e))).trans hX7.out)
      have hO8 : Aside0 (∀ b, Value.ownBlock v8 = some b → b ≠ W2.heap.size) := ⟨own_apart3 hat8 (fun e => hN7.out (Option.some.inj e)) (blk_lt hX7.out)⟩
      refine hK.out _ _ (kp.out _ hB8.out) (fun hHeld => ?_)
      clear hK K
      refine norm_ (a' := ?_) ?_ ?_
      rotate_left
      · show Act.put _ (some 16) _ = _
        simp only [Act.put, List.setIfInBounds_toArray, List.set_cons_zero, List.set_cons_succ]
        rfl
      clear hv8 hb8 hf8 hat8
      obtain ⟨A5, c5, rfl⟩ := Kd.R_slice hV8.out
      refine pure_ (i := 10) (N := some 17) (v := ?_) (a' := ?_) #[true, true, true, true, true, true, true, true, true, true, true, true, false] rfl rfl (by kernel_rfl) (fun _ _ _ h => h) (Or.inl ⟨by rfl, ?_⟩) ?_ ?_
      rotate_left
      · intro w'
        go_simp
        with_reducible rfl
      rotate_left
      · simp only [Act.put, List.setIfInBounds_toArray, List.set_cons_zero, List.set_cons_succ]
        rfl
      refine last_ (i := 12) (N := none) #[true, true, true, true, true, true, true, true, true, true, true, true, true] rfl rfl (by kernel_rfl) (by decide) (fun K hK => ?_)
      have hs0 := (blk_cell hX8.out 0).trans rfl
      have hf0 := blk_frozen hX8.out 0
      have hs1 := (blk_cell hX8.out 1).trans rfl
      have hf1 := blk_frozen hX8.out 1
      have hs2 := (blk_cell hX8.out 2).trans rfl
      have hf2 := blk_frozen hX8.out 2
      have hs3 := (blk_cell hX8.out 3).trans rfl
      have hf3 := blk_frozen hX8.out 3
      refine skip_ (w1 := ?_) (by rfl) rfl ?_ ?_
      rotate_left
      · go_simp
        rfl
      refine hK.out _ _ ?_
      clear hK K
      refine done_ (by kernel_rfl) ?_
      go_wp2_with (fail)
      go_meet
      have hE := rlist_end (ag := ag) hBw.out hB8.out hV8.out hX8.out hO8.out hW6.out (n5 := L.length) (L3 := L) (by simp) (by simp)
      exact ⟨_, _, rfl, ⟨hE.1⟩, ⟨hE.2⟩⟩
  case rest =>
    as_aux_lemma =>
    obtain ⟨g, v, rfl, hG, hB⟩ := hcut
    go_wp2
    go_loopg [4] M.length (fun gg v4 wr => ∃ (i : Nat) (C : List S77) (v : Value), i ≤ M.length ∧ M.length - i ≤ gg ∧ Aside0 (C.Perm (M.drop i)) ∧ Aside0 (RS w.heap.size wr (.small g) v ag 0 (i : Int) C) ∧ Aside0 (Kd.R k77 77 wr w.heap.size (fun k => v4.ownBlock = some k ∧ k ≠ g ∧ v.ownBlock ≠ some k) v4 (M.take i)) ∧ Aside0 (Below w.heap.size w wr))
    case atStart => exact ⟨0, L, v, Nat.zero_le _, Nat.le_refl _, ⟨HM.out.1.symm⟩, hG, ⟨Kd.R_nil _ _ _ _ _⟩, hB⟩
    case round =>
      obtain ⟨i, C, v5, hi, hgg, hCp, hRS, hO, hBw⟩ := hrel
      clear hG hB
      have hCl : C.length = M.length - i := by rw [hCp.out.length_eq, List.length_drop]
      have hMl : M.length ≤ 1000 := by rw [HM.out.1.length_eq]; exact HLL.out
      obtain ⟨A1, c1, rfl⟩ := Kd.R_slice hRS.out.r
      have c3 : wr.cell? ⟨g, 3, none⟩ = some (.slice A1 C.length c1) := (blk_cell hRS.out.g 3).trans (RK.c3 _ _ _ _ _)
      by_cases hlt : i < M.length
      · obtain ⟨⟨j, hj, hj1, hj2⟩, hstep⟩ := rlist_step HM.out.2.1 HM.out.2.2 hCp.out hlt
        have hC0 : (0 : Int) < (C.length : Int) := by omega
        have hT := Aside0.mk (rtake_yes hRS.out j hj hj1 (rd_T77 M i) hj2 (by omega) ((i + 1 : Nat) : Int) (by rw [i64_w]; unfold wrap64; omega))
        obtain ⟨x, hx⟩ : ∃ x, rd_T77 M i = x := ⟨_, rfl⟩
        rw [hx] at hT hstep
        have hx := Aside0.mk hx
        obtain ⟨A4, c4, rfl⟩ := Kd.R_slice hO.out
        have hln : (M.take i).length = i := by rw [List.length_take, Nat.min_eq_left (by omega)]
        rw [hln] at hO
        have hln := Aside0.mk hln
        have hlw := Aside0.mk (fun b hb => own_lt (own_of_R hO.out) b hb : ∀ b, Value.ownBlock (.slice A4 i c4) = some b → b < wr.heap.size)
        have hvr := Aside0.mk (fun b hb => own_lt (own_of_R hRS.out.r) b hb : ∀ b, Value.ownBlock (.slice A1 C.length c1) = some b → b < wr.heap.size)
        have hT := Aside0.mk (show Calls Try.prog 45 #[.pointer (some ⟨g, 0, none⟩)] wr (fun e w' => e = .returned (.tuple #[.agg #[.int .i64 x.f0, .int .i64 x.f1, .int .i64 x.f2], .int .i64 0]) ∧ Aside0 (RGo w.heap.size wr (.small g) (.slice A1 C.length c1) w' ag 0 ((i + 1 : Nat) : Int) (rdropL C x.f0))) from hT.out)
        have hix : i ≤ 1000 := by omega
        go_wp2_with (first
          | (go_at_call 45; refine hT.out.mono ?_; rintro e w5 ⟨rfl, hz⟩; clear c3 hT)
          | ((with_reducible refine gate_builtin (b := .append) (xs := #[.tmp 26, .tmp 28]) rfl ?_); at_builtin; obtain ⟨v6, hR6, hF6, hat6⟩ := hz.out; have hb6 : Below w5.heap.size w5 ((w5.alloc (.cells #[.int .i64 x.f0, .int .i64 x.f1, .int .i64 x.f2] 77)).alloc (.cells #[.int .i64 x.f0, .int .i64 x.f1, .int .i64 x.f2] 77)) := below_alloc (below_alloc (Below.refl _ _) _) _; have hO6 := Kd.R_kept hO.out (S := fun b => b = g) ⟨hF6.size, fun i hi hn => hF6.blk i hi hn⟩ (fun k hk => hk.2.1); have hO7 := Kd.R_below hO6 hb6; have hB6 := hF6.below (base := w.heap.size) hBw.out.size (fun k hk => hk ▸ hR6.nr); obtain ⟨v8, w8, hrun, k1, k2, k3, k4⟩ := run_rows3 (W := (w5.alloc (.cells #[.int .i64 x.f0, .int .i64 x.f1, .int .i64 x.f2] 77)).alloc (.cells #[.int .i64 x.f0, .int .i64 x.f1, .int .i64 x.f2] 77)) 63 (some ⟨w5.heap.size + 1, 0, none⟩) 1 1 [x] hO7 (C_two w5 x) (Nat.le_trans (Nat.le_trans hBw.out.size hF6.size) hb6.size) (by rw [hln.out]; omega); refine Lib.wpList_append_run _ (by rfl) (.tmp 26) (.tmp 28) 63 63 (by rfl) (.slice A4 i c4) (.slice (some ⟨w5.heap.size + 1, 0, none⟩) 1 1) (by rfl) (by rfl) v8 w8 hrun ?_))
        have hok := hO.out.1
        have hv6 : ∀ b, v6.ownBlock = some b → ¬ Value.ownBlock (.slice A4 i c4) = some b := by
          intro b hb e
          rcases hat6 with rfl | hat6
          · exact (hok b e).2.2 hb
          · have := hat6 b hb
            have := hlw.out b e
            omega
        have h2s := hb6.size
        have hx2 : M.take i ++ [x] = M.take (i + 1) := by
          rw [← hx.out, rd_get hlt, List.take_append_getElem hlt]
        have hR8 : Kd.R k77 77 w8 w.heap.size (fun k => v8.ownBlock = some k ∧ k ≠ g ∧ v6.ownBlock ≠ some k) v8 (M.take (i + 1)) := by
          rw [← hx2]
          refine Kd.R_mono (Kd.R_tight2 rfl k1) (fun k hk => ⟨hk.1.symm, ?_⟩)
          rcases k4 with k4 | ⟨b, k4, hb⟩
          · have e := k4.symm.trans hk.1.symm
            exact ⟨(hok k e).2.1, fun e2 => hv6 k e2 e⟩
          · have e := Option.some.inj (k4.symm.trans hk.1.symm)
            have hg6 : g < w5.heap.size := blk_lt hR6.g
            refine ⟨by show k ≠ g; omega, fun e2 => ?_⟩
            have := own_lt (own_of_R hR6.r) k e2
            omega
        have hRS8 := (hR6.step hb6).keep k3 (fun e => (hok g e).2.1 rfl) (fun k hk => hv6 k hk)
        have hB8 := hBw.out.trans (hB6.trans ((below_lower hb6 (Nat.le_trans hBw.out.size hF6.size)).trans k2))
        go_roundg (M.length - (i + 1))
        case measure => omega
        case rel => exact ⟨i + 1, _, v6, by omega, Nat.le_refl _, ⟨hstep⟩, ⟨hRS8⟩, ⟨hR8⟩, ⟨hB8⟩⟩
      · have hC0 : ¬ (0 : Int) < (C.length : Int) := by omega
        go_wp2
        go_ret
        have e : M.take i = M := List.take_of_length_le (by omega)
        have hO2 := hO.out
        rw [e] at hO2
        exact ⟨_, rfl, ⟨Kd.R_mono hO2 (fun _ _ => trivial), hBw.out⟩⟩
end
end Go.Proofs.Ytfkebbkfmchnaaa.Ln
