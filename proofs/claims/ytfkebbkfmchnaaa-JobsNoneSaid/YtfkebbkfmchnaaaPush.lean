/- queue.line's Push and Pop as calls. Conditions: the line lies in memory as told. -/
import Derived.Test.YtfkebbkfmchnaaaLine
namespace Go.Proofs.Ytfkebbkfmchnaaa.Ln
open Go.RowKit Go.Proofs.Ytfkebbkfmchnaaa.PBase Go.Proofs.Ytfkebbkfmchnaaa.Cat Go.Proofs.Ytfkebbkfmchnaaa.Heap Go.Proofs.YtfkebbkfmchnaaaW.PrintWords Go.Proofs.YtfkebbkfmchnaaaW.PrintLast Go.Proofs.YtfkebbkfmchnaaaW.PrintMore
theorem ta (W : World) (a b c : Int) : (Instr.typeAssert (.iface 77 (.agg #[.int .i64 a, .int .i64 b, .int .i64 c])) 20 77 true).run Try.prog W = .ok (.tuple #[.agg #[.int .i64 a, .int .i64 b, .int .i64 c], .bool true]) W := by kernel_rfl
/-- The header stored anew. -/
theorem QS.put {W : World} {base B : Nat} {ag rm ct : Int} {v v' : Value} {L M : List S77} (h : QS W base B ag v rm ct L) (hR : Kd.R k77 77 W base (fun _ => True) v' M) : QS (W.setCell ⟨B, 1, none⟩ v') base B ag v' rm ct M :=
  h.of_row (blk_set h.blk 1 v') (Kd.R_set hR h.blk (by decide) 1 v')
theorem Fr.put {W : World} {B j : Nat} {v u : Value} : Fr (QF B v) W (W.setCell ⟨B, j, none⟩ u) := ⟨rfl, rfl, rfl, by simp [World.setCell], fun k _ hn => Below.heap_setCell W ⟨B, j, none⟩ u k (fun e => hn (.inl e))⟩
theorem QS.step {W W1 : World} {base B : Nat} {ag rm ct : Int} {v : Value} {L : List S77} (h : QS W base B ag v rm ct L) (hb : Below W.heap.size W W1) : QS W1 base B ag v rm ct L :=
  h.of_row ((hb.block B (Array.getElem?_eq_some_iff.1 h.blk).1).trans h.blk) (Kd.R_below (R_of_own h.own) hb)
theorem QS.lt {W : World} {base B : Nat} {ag rm ct : Int} {v : Value} {L : List S77} (h : QS W base B ag v rm ct L) : B < W.heap.size := (Array.getElem?_eq_some_iff.1 h.blk).1
theorem QS.base_le {W : World} {base B : Nat} {ag rm ct : Int} {v : Value} {L : List S77} (h : QS W base B ag v rm ct L) : base ≤ W.heap.size := Nat.le_trans h.lb (Nat.le_of_lt h.lt)
theorem event_app {ops : Array Oper} {o : Oper} {a : Act} {Q : Exit → Act → World → Prop} {K : Act → World → Prop} {W w1 : World} {v1 : Value} (hw : Region.wanted o (yielded ops a.tmps) = true) (s x : Operand) (ho : o.op = .call { callee := .builtin .append, args := #[s, x], argTypes := #[63, 63] }) (u v : Value) (hs : a.eval s = v) (hx : a.eval x = u)
    (hr : (Builtin.append_ #[63, 63] o.type #[v, u]).run Try.prog W = .ok v1 w1) (h : K (a.put o.dst v1) w1) : if Region.wanted o (yielded ops a.tmps) = true then Oper.wp Try.prog o a W K Q else K (a.put o.dst undef) W := by
  refine event_step hw ?_ h
  unfold execOp
  simp only [ho, resolve, invoke, builtin, Sem.run_bind, Sem.run_pure, Result.andThen_ok, List.map_toArray, List.map_cons, List.map_nil, hs, hx, hr]
/-- An append to the row: what is the queue's besides stays. -/
theorem app_run {W : World} {base B : Nat} {ag rm ct : Int} {v : Value} {L : List S77} (h : QS W base B ag v rm ct L) (x : S77) (ty : TypeId) (hl : L.length ≤ 1000000) (ad : Addr) (c : Nat) (hx : Kd.C k77 W (some ad) 1 [x]) :
    ∃ v1 w1, (Builtin.append_ #[63, 63] ty #[v, .slice (some ad) 1 c]).run Try.prog W = .ok v1 w1 ∧ w1.heap[B]? = some (.cells #[.int .i64 ag, v, .int .i64 rm, .int .i64 ct] 111 (0, 0)) ∧ Kd.R k77 77 w1 base (fun _ => True) v1 (L ++ [x]) ∧ Fr (QF B v) W w1 ∧ At W v v1 := by
  obtain ⟨i0, hi, hzz⟩ := Option.map_eq_some_iff.1 Cat.info77
  simp only [Prod.mk.injEq] at hzz
  obtain ⟨hz0, hz1, hz2⟩ := hzz
  obtain ⟨v1, w1, hrun, h2, hg, _, hat⟩ := run_append_own_at (P := Try.prog) W base 63 ty 77 i0 _ 3 24 Try.underlying63 hi hz0 hz1 hz2 rfl (by decide) v L.length (flat L) h.own ad 1 c (flat [x]) (by rw [flat_len]; rfl) (C_cells hx) flat_one (by simp only [maxLen]; omega) (by omega) h.base_le
  rw [← flat_append] at h2
  refine ⟨v1, w1, hrun, (hg.block B h.lt (fun e => h.ne e.symm)).trans h.blk, R_of_own (by rw [List.length_append]; exact h2), Fr.of_grown hg (fun k e => .inr e), ?_⟩
  rcases hat with hat | hat
  · exact .inl hat
  · exact .inr ⟨_, hat, Nat.le_refl _⟩
set_option maxHeartbeats 4000000 in
set_option maxRecDepth 100000 in
theorem push_calls {W : World} {base B : Nat} {ag rm ct : Int} {v : Value} {L : List S77} (h : QS W base B ag v rm ct L) (x : S77) (hl : L.length ≤ 1000000) :
    Calls Try.prog 122 #[.pointer (some ⟨B, 0, none⟩), .iface 77 (.agg #[.int .i64 x.f0, .int .i64 x.f1, .int .i64 x.f2])] W fun e w' => e = .returned (.tuple #[]) ∧ ∃ v', QS w' base B ag v' rm ct (L ++ [x]) ∧ Fr (QF B v) W w' ∧ At W v v' := by
  have c1 : W.cell? ⟨B, 1, none⟩ = some v := h.cell 1
  have hta := fun W => ta W x.f0 x.f1 x.f2
  have HQ0 := Aside0.mk h
  have hlt := h.lt
  go_enter Try.func122, Try.ntmps122
  go_wp2
  have hb1 : Below W.heap.size W (W.alloc (Obj.cells #[Value.int IntKind.i64 x.f0, Value.int IntKind.i64 x.f1, Value.int IntKind.i64 x.f2] 77)) := below_alloc (Below.refl _ _) _
  have hy0 : (W.alloc (Obj.cells #[Value.int IntKind.i64 x.f0, Value.int IntKind.i64 x.f1, Value.int IntKind.i64 x.f2] 77)).cell? ⟨W.heap.size, 0, none⟩ = some (.int .i64 x.f0) := by simp
  have hy1 : (W.alloc (Obj.cells #[Value.int IntKind.i64 x.f0, Value.int IntKind.i64 x.f1, Value.int IntKind.i64 x.f2] 77)).cell? ⟨W.heap.size, 1, none⟩ = some (.int .i64 x.f1) := by simp
  have hy2 : (W.alloc (Obj.cells #[Value.int IntKind.i64 x.f0, Value.int IntKind.i64 x.f1, Value.int IntKind.i64 x.f2] 77)).cell? ⟨W.heap.size, 2, none⟩ = some (.int .i64 x.f2) := by simp
  have c1' := (hb1.cell (p := ⟨B, 1, none⟩) hlt).trans c1
  generalize W.alloc (Obj.cells #[Value.int IntKind.i64 x.f0, Value.int IntKind.i64 x.f1, Value.int IntKind.i64 x.f2] 77) = W1 at hb1 hy0 hy1 hy2 c1' ⊢
  clear hta c1
  refine start_ (n := 11) (S := fun w' => w'.cell? ⟨B, 1, none⟩ = some v ∧ w'.cell? ⟨W.heap.size, 0, none⟩ = some (.int .i64 x.f0) ∧ w'.cell? ⟨W.heap.size, 1, none⟩ = some (.int .i64 x.f1) ∧ w'.cell? ⟨W.heap.size, 2, none⟩ = some (.int .i64 x.f2)) (ds := [10]) #[false, false, false, false, false, false, false, false, false, false, false] (by kernel_rfl) rfl rfl ⟨c1', hy0, hy1, hy2⟩ (fun hHeld => ?_)
  have hb2 := below_drew1 hb1
  have HQ := Aside0.mk (HQ0.out.step hb2)
  have HQ0' := Aside0.mk hb2
  generalize W1.drew = W2 at hHeld HQ HQ0' ⊢
  clear hb2 hb1 hy0 hy1 hy2 c1'
  have hWlt := World.block_lt_of_cell? W2 _ hHeld.2.1
  have hbA := below_alloc (Below.refl W2.heap.size W2) (.cells #[.int .i64 x.f0, .int .i64 x.f1, .int .i64 x.f2] 77)
  have hWF : ¬ QF B v W.heap.size := by
    rintro (e | e)
    · omega
    · have := own_lt HQ0.out.own _ e
      omega
  refine pure_ (i := 0) (N := some 12) (v := ?_) (a' := ?_) #[true, false, false, false, false, false, false, false, false, false, false] rfl rfl (by kernel_rfl) (fun _ _ _ h => h) (Or.inl ⟨by rfl, ?_⟩) ?_ ?_
  rotate_left
  · intro w'
    go_simp
    with_reducible rfl
  rotate_left
  · simp only [Act.put, List.setIfInBounds_toArray, List.set_cons_zero, List.set_cons_succ]
    rfl
  refine pure_ (i := 1) (N := some 13) (v := ?_) (a' := ?_) #[true, true, false, false, false, false, false, false, false, false, false] rfl rfl (by kernel_rfl) (fun _ _ _ h => h) (Or.inl ⟨by rfl, ?_⟩) ?_ ?_
  rotate_left
  · intro w'
    go_simp
    with_reducible rfl
  rotate_left
  · simp only [Act.put, List.setIfInBounds_toArray, List.set_cons_zero, List.set_cons_succ]
    rfl
  refine pure_ (i := 2) (N := some 14) (v := ?_) (a' := ?_) #[true, true, true, false, false, false, false, false, false, false, false] rfl rfl (by kernel_rfl) (fun _ _ _ h => h) (Or.inl ⟨by rfl, ?_⟩) ?_ ?_
  rotate_left
  · intro w'
    go_simp
    with_reducible rfl
  rotate_left
  · simp only [Act.put, List.setIfInBounds_toArray, List.set_cons_zero, List.set_cons_succ]
    rfl
  refine pure_ (i := 3) (N := some 15) (v := ?_) (a' := ?_) #[true, true, true, true, false, false, false, false, false, false, false] rfl rfl (by kernel_rfl) (fun _ _ _ h => h) (Or.inl ⟨by rfl, ?_⟩) ?_ ?_
  rotate_left
  · intro w'
    go_simp
    with_reducible rfl
  rotate_left
  · simp only [Act.put, List.setIfInBounds_toArray, List.set_cons_zero, List.set_cons_succ]
    rfl
  refine take_ (i := 4) (N := some 16) (v := ?_) (a' := ?_) #[true, true, true, true, true, false, false, false, false, false, false] rfl rfl (by kernel_rfl) (fun _ _ _ h => h) (Or.inl ⟨by rfl, ?_⟩) hHeld ?_ ?_
  rotate_left
  · rintro w' ⟨s0, s1, s2, s3⟩
    go_simp
    with_reducible rfl
  rotate_left
  · simp only [Act.put, List.setIfInBounds_toArray, List.set_cons_zero, List.set_cons_succ]
    rfl
  refine take_ (i := 5) (N := some 17) (v := ?_) (a' := ?_) #[true, true, true, true, true, true, false, false, false, false, false] rfl rfl (by kernel_rfl) (fun _ _ _ h => h) (Or.inl ⟨by rfl, ?_⟩) hHeld ?_ ?_
  rotate_left
  · rintro w' ⟨s0, s1, s2, s3⟩
    go_simp
    with_reducible rfl
  rotate_left
  · simp only [Act.put, List.setIfInBounds_toArray, List.set_cons_zero, List.set_cons_succ]
    rfl
  refine one_ (i := 6) (N := some 18) #[true, true, true, true, true, true, true, false, false, false, false] rfl rfl (by kernel_rfl) (by decide) (fun K hK => ?_)
  refine event_step (v := .slice (some ⟨W2.heap.size, 0, none⟩) 1 1) (w1 := W2.alloc (.cells #[.int .i64 x.f0, .int .i64 x.f1, .int .i64 x.f2] 77)) (by rfl) (by go_simp) ?_
  refine hK.out _ _ ⟨(hbA.cell (p := ⟨B, 1, none⟩) HQ.out.lt).trans hHeld.1, (hbA.cell (p := ⟨W.heap.size, 0, none⟩) hWlt).trans hHeld.2.1, (hbA.cell (p := ⟨W.heap.size, 1, none⟩) hWlt).trans hHeld.2.2.1, (hbA.cell (p := ⟨W.heap.size, 2, none⟩) hWlt).trans hHeld.2.2.2⟩ (fun hHeld => ?_)
  clear hK K
  refine norm_ (a' := ?_) ?_ ?_
  rotate_left
  · show Act.put _ (some 18) _ = _
    simp only [Act.put, List.setIfInBounds_toArray, List.set_cons_zero, List.set_cons_succ]
    rfl
  refine one_ (i := 7) (N := some 19) #[true, true, true, true, true, true, true, true, false, false, false] rfl rfl (by kernel_rfl) (by decide) (fun K hK => ?_)
  obtain ⟨v1, w1, hrun, hB1, hR1, hF1, hA1⟩ := app_run (HQ.out.step (below_alloc (Below.refl _ _) (.cells #[.int .i64 x.f0, .int .i64 x.f1, .int .i64 x.f2] 77))) x 63 hl ⟨W2.heap.size, 0, none⟩ 1 (C_one (w := W2) x)
  obtain ⟨A1, cc, rfl, _, _⟩ := Kd.R_reads hR1
  refine event_app (by rfl) (.tmp 16) (.tmp 18) (by rfl) (.slice (some ⟨W2.heap.size, 0, none⟩) 1 1) v (by rfl) (by rfl) hrun ?_
  refine hK.out _ _ ⟨(blk_cell hB1 1).trans rfl, hF1.cell hHeld.2.1 hWF, hF1.cell hHeld.2.2.1 hWF, hF1.cell hHeld.2.2.2 hWF⟩ (fun hHeld => ?_)
  clear hK K
  refine norm_ (a' := ?_) ?_ ?_
  rotate_left
  · show Act.put _ (some 19) _ = _
    simp only [Act.put, List.setIfInBounds_toArray, List.set_cons_zero, List.set_cons_succ]
    rfl
  have hR1 := Aside0.mk hR1
  have hF1 := Aside0.mk hF1
  have hA1 := Aside0.mk hA1
  clear hrun
  refine pure_ (i := 8) (N := some 20) (v := ?_) (a' := ?_) #[true, true, true, true, true, true, true, true, true, false, false] rfl rfl (by kernel_rfl) (fun _ _ _ h => h) (Or.inl ⟨by rfl, ?_⟩) ?_ ?_
  rotate_left
  · intro w'
    go_simp
    with_reducible rfl
  rotate_left
  · simp only [Act.put, List.setIfInBounds_toArray, List.set_cons_zero, List.set_cons_succ]
    rfl
  refine pure_ (i := 9) (N := some 21) (v := ?_) (a' := ?_) #[true, true, true, true, true, true, true, true, true, true, false] rfl rfl (by kernel_rfl) (fun _ _ _ h => h) (Or.inl ⟨by rfl, ?_⟩) ?_ ?_
  rotate_left
  · intro w'
    go_simp
    with_reducible rfl
  rotate_left
  · simp only [Act.put, List.setIfInBounds_toArray, List.set_cons_zero, List.set_cons_succ]
    rfl
  refine last_ (i := 10) (N := none) #[true, true, true, true, true, true, true, true, true, true, true] rfl rfl (by kernel_rfl) (by decide) (fun K hK => ?_)
  have hs : w1.cell? ⟨B, 1, none⟩ = some v := (blk_cell hB1 1).trans rfl
  have hfs := blk_frozen hB1 1
  refine skip_ (w1 := ?_) (by rfl) rfl ?_ ?_
  rotate_left
  · go_simp
    rfl
  refine hK.out _ _ ?_
  clear hK K
  refine done_ (by kernel_rfl) ?_
  go_end0
  have hb3 := below_alloc HQ0'.out (.cells #[.int .i64 x.f0, .int .i64 x.f1, .int .i64 x.f2] 77)
  have hl1 : (L ++ [x]).length = L.length + 1 := by simp
  have hR2 := hR1.out
  rw [hl1] at hR2
  refine ⟨rfl, _, ⟨blk_set hB1 1 _, HQ.out.lb, own_of_R (Kd.R_set hR2 hB1 (by decide) 1 _)⟩, ?_, ?_⟩
  · exact Fr.then_ (Fr.of_below (F := QF B v) hb3) (Fr.then_ hF1.out (Fr.put (v := v)) (fun _ h => .inl h)) (fun _ h => .inl h)
  · rcases hA1.out with e | ⟨b, e, hb⟩
    · exact .inl (by rw [hl1] at e; exact e)
    · exact .inr ⟨b, by rw [hl1] at e; exact e, Nat.le_trans hb3.size hb⟩
set_option maxHeartbeats 4000000 in
set_option maxRecDepth 100000 in
theorem pop_calls {W : World} {base B : Nat} {ag rm ct : Int} {v : Value} {L : List S77} (h : QS W base B ag v rm ct L) (hl : 0 < L.length) :
    Calls Try.prog 121 #[.pointer (some ⟨B, 0, none⟩)] W fun e w' => (∃ q, e = .returned q) ∧ ∃ v', QS w' base B ag v' rm ct (L.take (L.length - 1)) ∧ Fr (QF B v) W w' ∧ v'.ownBlock = v.ownBlock := by
  have c1 : W.cell? ⟨B, 1, none⟩ = some v := h.cell 1
  obtain ⟨g, cap, rfl, hgb, hgl, cells, hgc⟩ := Kd.R_form (R_of_own h.own) hl
  have hC := (Kd.R_reads' (R_of_own h.own)).2.2
  have hcap := (Kd.R_reads' (R_of_own h.own)).2.1
  obtain ⟨j, hj⟩ : ∃ j : Int, ((L.length - 1 : Nat) : Int) = j := ⟨_, rfl⟩
  have hjw : IntKind.i64.wrap ((L.length : Int) - 1) = j := by have := hC.2.1; rw [i64_w]; unfold wrap64; omega
  obtain ⟨ad, e1, hx0, hx1, hx2⟩ := at_T77 hC j (by omega) (by omega)
  injection e1 with e1
  subst e1
  rw [Addr.add_lit, Nat.zero_add] at hx0 hx1 hx2
  have hBlt := h.lt
  have hBn : ¬ (B = W.heap.size) := by omega
  have hBn' : ¬ (W.heap.size = B) := by omega
  have hfz : W.frozen? ⟨B, 1, none⟩ = false := blk_frozen h.blk 1
  have p1 : 0 ≤ j := by omega
  have p2 : j < (L.length : Int) := by omega
  have p3 : j ≤ (cap : Int) := by omega
  have HJ : Aside0 (j.toNat = L.length - 1) := ⟨by omega⟩
  have H := Aside0.mk h
  clear h hj
  go_enter Try.func121, Try.ntmps121
  go_wp2
  go_ret
  refine ⟨⟨_, rfl⟩, .slice (some ⟨g, 0, none⟩) j.toNat cap, ?_, ?_, rfl⟩
  · have hR := Kd.R_take (m := j.toNat) (R_of_own H.out.own) (by rw [HJ.out]; omega)
    have hq := H.out.put hR
    rw [HJ.out] at hq ⊢
    exact hq.step (below_alloc (Below.refl _ _) _)
  · exact Fr.then_ Fr.put (Fr.of_below (F := fun _ => False) (below_alloc (Below.refl _ _) _)) (fun _ h => h.elim)
end Go.Proofs.Ytfkebbkfmchnaaa.Ln
