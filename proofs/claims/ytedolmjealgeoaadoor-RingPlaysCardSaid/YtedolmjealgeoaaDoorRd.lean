/- The reference's ring: Put, Drop as calls. Conditions: the ring lies in memory as told. -/
import Derived.Test.YtedolmjealgeoaaDoorRr
set_option linter.unusedVariables false
namespace Go.Proofs.YtedolmjealgeoaaDoor.Rg
open Go.RowKit Go.Maps Go.Proofs.YtedolmjealgeoaaDoor.PBase Go.Proofs.YtedolmjealgeoaaDoor.Cat Go.Proofs.YtedolmjealgeoaaDoorW.PrintWords Go.Proofs.YtedolmjealgeoaaDoorW.PrintLast Go.Proofs.YtedolmjealgeoaaDoorW.PrintMore
theorem app3_run {W : World} {base : Nat} {ok : Nat → Prop} {v : Value} {xs : List S114} (h : Kd.R k114 114 W base ok v xs) (d : S114) (ty : TypeId) (hl : xs.length ≤ 1000000) (ad : Addr) (c : Nat) (hx : Kd.C k114 W (some ad) 1 [d]) (hb : base ≤ W.heap.size) :
    ∃ v1 w1, (Builtin.append_ #[26, 26] ty #[v, .slice (some ad) 1 c]).run Tryd.prog W = .ok v1 w1 ∧ Kd.R k114 114 w1 base (fun _ => True) v1 (xs ++ [d]) ∧ Fr (fun k => v.ownBlock = some k) W w1 ∧ At W v v1 := by
  obtain ⟨i0, hi, hzz⟩ := Option.map_eq_some_iff.1 C3.info114
  simp only [Prod.mk.injEq] at hzz
  obtain ⟨hz0, hz1, hz2⟩ := hzz
  obtain ⟨v1, w1, hrun, h2, hg, _, hat⟩ := run_append_own_at (P := Tryd.prog) W base 26 ty 114 i0 _ 3 24 Tryd.underlying26 hi hz0 hz1 hz2 rfl (by decide) v xs.length (C3.flat xs) (C3.own_of_R h) ad 1 c (C3.flat [d]) (by rw [C3.flat_len]; rfl) (C3.C_cells hx) C3.flat_one (by simp only [maxLen]; omega) (by omega) hb
  rw [← C3.flat_append] at h2
  refine ⟨v1, w1, hrun, C3.R_of_own (by rw [List.length_append]; exact h2), Fr.of_grown hg (fun k e => e), ?_⟩
  rcases hat with hat | hat
  · exact .inl hat
  · exact .inr ⟨_, hat, Nat.le_refl _⟩
theorem event_app3 {ops : Array Oper} {o : Oper} {a : Act} {Q : Exit → Act → World → Prop} {K : Act → World → Prop} {W w1 : World} {v1 : Value} (hw : Region.wanted o (yielded ops a.tmps) = true) (s x : Operand) (ho : o.op = .call { callee := .builtin .append, args := #[s, x], argTypes := #[26, 26] }) (u v : Value) (hs : a.eval s = v) (hx : a.eval x = u)
    (hr : (Builtin.append_ #[26, 26] o.type #[v, u]).run Tryd.prog W = .ok v1 w1) (h : K (a.put o.dst v1) w1) : if Region.wanted o (yielded ops a.tmps) = true then Oper.wp Tryd.prog o a W K Q else K (a.put o.dst undef) W := by
  refine event_step hw ?_ h
  unfold execOp
  simp only [ho, resolve, invoke, builtin, Sem.run_bind, Sem.run_pure, Result.andThen_ok, List.map_toArray, List.map_cons, List.map_nil, hs, hx, hr]
theorem R3_lit0 (W : World) : Kd.R k114 114 (W.alloc (.cells #[] 114)) W.heap.size (fun _ => True) (.slice (some ⟨W.heap.size, 0, none⟩) 0 0) [] := by
  refine ⟨fun _ _ => trivial, OwnRow.lit W W.heap.size (inner := C3.flat []) ?_ (Nat.le_refl _) (by simp)⟩
  exact C3.reps_flat (fun x => k114_mkM _ _ _ x) []
section
variable {N : Nat} {w w' : World} {R : Nat} {v : Value} {T : List S114}
theorem own_ne (h : RS N w R v T) : ∀ k, v.ownBlock = some k → k ≠ R ∧ k < w.heap.size := fun k hk => ⟨(h.r.1 k hk).2, own_lt (C3.own_of_R h.r) k hk⟩
/-- The row stored anew. -/
theorem RS.put2 {w1 : World} {v' : Value} {T' : List S114} (h : RS N w R v T) (hf : Fr (fun k => v.ownBlock = some k) w w1) (hR : Kd.R k114 114 w1 N (fun _ => True) v' T') (hat : v'.ownBlock = v.ownBlock ∨ ∀ b, v'.ownBlock = some b → w.heap.size ≤ b) : RS N (w1.setCell ⟨R, 0, none⟩ v') R v' T' ∧ Fr (X2 R v) w (w1.setCell ⟨R, 0, none⟩ v') := by
  have hlt := blk_lt h.g
  have hg1 := (hf.blk R hlt (fun e => (own_ne h R e).1 rfl)).trans h.g
  have hne : ∀ k, v'.ownBlock = some k → k ≠ R := fun k hk e => by
    rcases hat with e2 | e2
    · exact (own_ne h k (by rw [← e2]; exact hk)).1 e
    · have := e2 k hk; omega
  refine ⟨⟨blk_set hg1 0 v', ?_, h.nr⟩, (hf.weak (fun k hk => .inr hk)).trans ((Fr.set w1 R 0 v').weak (fun k hk => .inl hk))⟩
  have h2 : Kd.R k114 114 w1 N (fun k => v'.ownBlock = some k ∧ k ≠ R) v' T' := Kd.R_mono (Kd.R_tight2 rfl hR) (fun k hk => ⟨hk.1.symm, hne k hk.1.symm⟩)
  exact Kd.R_kept h2 (S := fun k => k = R) ⟨by simp [World.setCell], fun i hi hn => Below.heap_setCell w1 ⟨R, 0, none⟩ v' i hn⟩ (fun k hk => hk.2)
theorem RS.put {w1 : World} {v' : Value} {T' : List S114} (h : RS N w R v T) (hf : Fr (fun k => v.ownBlock = some k) w w1) (hR : Kd.R k114 114 w1 N (fun _ => True) v' T') (hat : v'.ownBlock = v.ownBlock ∨ ∀ b, v'.ownBlock = some b → w.heap.size ≤ b) : RSo N w R v (w1.setCell ⟨R, 0, none⟩ v') T' :=
  ⟨v', (h.put2 hf hR hat).1, (h.put2 hf hR hat).2, hat⟩
theorem rput_no (h : RS N w R v T) (slot : Int) (d : S31) (hp : putB T slot d = false) (hl : T.length ≤ 100000) : Calls Tryd.prog 16 #[.pointer (some ⟨R, 0, none⟩), .int .i64 slot, .agg #[.int .i64 d.f0, .int .u64 d.f1]] w fun e w' => e = .returned (.bool false) ∧ Below w.heap.size w w' := by
  have hbx : Below w.heap.size w (w.alloc (.cells #[.int .i64 d.f0, .int .u64 d.f1] 31)) := below_alloc (Below.refl _ _) _
  by_cases h1 : slot < 0
  · clear h
    go_enter Tryd.func16, Tryd.ntmps16
    go_wp2
    go_ret
    exact ⟨rfl, hbx⟩
  · by_cases h2 : 64 ≤ slot
    · clear h
      go_enter Tryd.func16, Tryd.ntmps16
      go_wp2
      go_ret
      exact ⟨rfl, hbx⟩
    · have hin : d.f0 ∈ tid T := by
        have := of_decide_eq_false hp
        refine Decidable.byContradiction (fun hn => this ⟨⟨by omega, by omega⟩, hn⟩)
      have hf := rfind_calls (h.step hbx) d.f0 (by omega)
      rcases plc_spec d.f0 T 0 with ⟨e, hn⟩ | ⟨k, hk, e, ht⟩
      · exact absurd hin hn
      · rw [e] at hf
        have hk0 : (0 : Int) ≤ 0 + (k : Int) := by omega
        clear h hin ht e
        go_enter Tryd.func16, Tryd.ntmps16
        go_wp2_with (go_at_call 62; refine hf.mono ?_; rintro e w1 ⟨rfl, hb1⟩; clear hf)
        go_ret
        exact ⟨rfl, below_step hbx hb1⟩
set_option maxHeartbeats 4000000 in
set_option maxRecDepth 100000 in
theorem rput_yes (h : RS N w R v T) (slot : Int) (d : S31) (hp : putB T slot d = true) (hl : T.length ≤ 100000) : Calls Tryd.prog 16 #[.pointer (some ⟨R, 0, none⟩), .int .i64 slot, .agg #[.int .i64 d.f0, .int .u64 d.f1]] w fun e w' => e = .returned (.bool true) ∧ Aside0 (RSo N w R v w' (T ++ [⟨slot, d⟩])) := by
  obtain ⟨⟨p0, p1⟩, p2⟩ := of_decide_eq_true hp
  have hbx : Below w.heap.size w (w.alloc (.cells #[.int .i64 d.f0, .int .u64 d.f1] 31)) := below_alloc (Below.refl _ _) _
  have hx := blk_new w (.cells #[.int .i64 d.f0, .int .u64 d.f1] 31)
  have hf := rfind_calls (h.step hbx) d.f0 (by omega)
  rcases plc_spec d.f0 T 0 with ⟨e, hn⟩ | ⟨k, hk, e, ht⟩
  case inr => exact absurd (tid_in.2 ⟨T[k], List.getElem_mem hk, ht⟩) p2
  rw [e] at hf
  have H := Aside0.mk h
  have hne0 := own_ne h
  obtain ⟨A, c, e0, hc, hC⟩ := Kd.R_reads h.r
  subst e0
  have hne := Aside0.mk hne0
  clear h p2 hn e hC hc hne0 hp
  have hs0 : ¬ slot < 0 := by omega
  have hs1 : ¬ 64 ≤ slot := by omega
  go_enter Tryd.func16, Tryd.ntmps16
  go_upto_region 3 with (go_at_call 62; refine hf.mono ?_; rintro e w1 ⟨rfl, hb1⟩; clear hf; have hb := Aside0.mk (below_step hbx hb1); have hx1 := blk_below hx hb1)
  have HM := Aside0.mk (H.out.step hb.out)
  have c0 : w1.cell? ⟨R, 0, none⟩ = some (.slice A T.length c) := (blk_cell HM.out.g 0).trans rfl
  have x0 : w1.cell? ⟨w.heap.size, 0, none⟩ = some (.int .i64 d.f0) := (blk_cell hx1 0).trans rfl
  have x1 : w1.cell? ⟨w.heap.size, 1, none⟩ = some (.int .u64 d.f1) := (blk_cell hx1 1).trans rfl
  clear hbx hx hb1 hx1
  refine start_ (n := 13) (S := fun w' => w'.cell? ⟨R, 0, none⟩ = some (.slice A T.length c) ∧ w'.cell? ⟨w.heap.size, 0, none⟩ = some (.int .i64 d.f0) ∧ w'.cell? ⟨w.heap.size, 1, none⟩ = some (.int .u64 d.f1)) (ds := [12]) #[false, false, false, false, false, false, false, false, false, false, false, false, false] (by kernel_rfl) rfl rfl ⟨c0, x0, x1⟩ (fun hHeld => ?_)
  have hbD := below_drew1 (Below.refl w1.heap.size w1)
  have H5 := Aside0.mk (HM.out.step hbD)
  have hb5 := Aside0.mk (below_step hb.out hbD)
  generalize w1.drew = w5 at hHeld H5 hb5 ⊢
  clear c0 x0 x1 hbD HM hb
  have hbA := Aside0.mk (below_alloc (Below.refl w5.heap.size w5) (.cells #[.int .i64 slot, .int .i64 d.f0, .int .u64 d.f1] 114))
  refine pure_ (i := 0) (N := some 20) (v := ?_) (a' := ?_) #[true, false, false, false, false, false, false, false, false, false, false, false, false] rfl rfl (by kernel_rfl) (fun _ _ _ h => h) (Or.inl ⟨by rfl, ?_⟩) ?_ ?_
  rotate_left
  · intro w'
    go_simp
    with_reducible rfl
  rotate_left
  · simp only [Act.put, List.setIfInBounds_toArray, List.set_cons_zero, List.set_cons_succ]
    rfl
  refine pure_ (i := 1) (N := some 21) (v := ?_) (a' := ?_) #[true, true, false, false, false, false, false, false, false, false, false, false, false] rfl rfl (by kernel_rfl) (fun _ _ _ h => h) (Or.inl ⟨by rfl, ?_⟩) ?_ ?_
  rotate_left
  · intro w'
    go_simp
    with_reducible rfl
  rotate_left
  · simp only [Act.put, List.setIfInBounds_toArray, List.set_cons_zero, List.set_cons_succ]
    rfl
  refine pure_ (i := 2) (N := some 22) (v := ?_) (a' := ?_) #[true, true, true, false, false, false, false, false, false, false, false, false, false] rfl rfl (by kernel_rfl) (fun _ _ _ h => h) (Or.inl ⟨by rfl, ?_⟩) ?_ ?_
  rotate_left
  · intro w'
    go_simp
    with_reducible rfl
  rotate_left
  · simp only [Act.put, List.setIfInBounds_toArray, List.set_cons_zero, List.set_cons_succ]
    rfl
  refine pure_ (i := 3) (N := some 23) (v := ?_) (a' := ?_) #[true, true, true, true, false, false, false, false, false, false, false, false, false] rfl rfl (by kernel_rfl) (fun _ _ _ h => h) (Or.inl ⟨by rfl, ?_⟩) ?_ ?_
  rotate_left
  · intro w'
    go_simp
    with_reducible rfl
  rotate_left
  · simp only [Act.put, List.setIfInBounds_toArray, List.set_cons_zero, List.set_cons_succ]
    rfl
  refine take_ (i := 4) (N := some 24) (v := ?_) (a' := ?_) #[true, true, true, true, true, false, false, false, false, false, false, false, false] rfl rfl (by kernel_rfl) (fun _ _ _ h => h) (Or.inl ⟨by rfl, ?_⟩) hHeld ?_ ?_
  rotate_left
  · rintro w' ⟨s0, s1, s2⟩
    go_simp
    with_reducible rfl
  rotate_left
  · simp only [Act.put, List.setIfInBounds_toArray, List.set_cons_zero, List.set_cons_succ]
    rfl
  refine pure_ (i := 5) (N := some 25) (v := ?_) (a' := ?_) #[true, true, true, true, true, true, false, false, false, false, false, false, false] rfl rfl (by kernel_rfl) (fun _ _ _ h => h) (Or.inl ⟨by rfl, ?_⟩) ?_ ?_
  rotate_left
  · intro w'
    go_simp
    with_reducible rfl
  rotate_left
  · simp only [Act.put, List.setIfInBounds_toArray, List.set_cons_zero, List.set_cons_succ]
    rfl
  refine take_ (i := 6) (N := some 26) (v := ?_) (a' := ?_) #[true, true, true, true, true, true, true, false, false, false, false, false, false] rfl rfl (by kernel_rfl) (fun _ _ _ h => h) (Or.inl ⟨by rfl, ?_⟩) hHeld ?_ ?_
  rotate_left
  · rintro w' ⟨s0, s1, s2⟩
    go_simp
    with_reducible rfl
  rotate_left
  · simp only [Act.put, List.setIfInBounds_toArray, List.set_cons_zero, List.set_cons_succ]
    rfl
  refine pure_ (i := 7) (N := some 27) (v := ?_) (a' := ?_) #[true, true, true, true, true, true, true, true, false, false, false, false, false] rfl rfl (by kernel_rfl) (fun _ _ _ h => h) (Or.inl ⟨by rfl, ?_⟩) ?_ ?_
  rotate_left
  · intro w'
    go_simp
    with_reducible rfl
  rotate_left
  · simp only [Act.put, List.setIfInBounds_toArray, List.set_cons_zero, List.set_cons_succ]
    rfl
  refine one_ (i := 8) (N := some 28) #[true, true, true, true, true, true, true, true, true, false, false, false, false] rfl rfl (by kernel_rfl) (by decide) (fun K hK => ?_)
  refine event_step (v := .slice (some ⟨w5.heap.size, 0, none⟩) 1 1) (w1 := w5.alloc (.cells #[.int .i64 slot, .int .i64 d.f0, .int .u64 d.f1] 114)) (by rfl) (by go_simp) ?_
  refine hK.out _ _ ⟨(hbA.out.cell (World.block_lt_of_cell? _ _ hHeld.1)).trans hHeld.1, (hbA.out.cell (World.block_lt_of_cell? _ _ hHeld.2.1)).trans hHeld.2.1, (hbA.out.cell (World.block_lt_of_cell? _ _ hHeld.2.2)).trans hHeld.2.2⟩ (fun hHeld => ?_)
  clear hK K
  refine norm_ (a' := ?_) ?_ ?_
  rotate_left
  · show Act.put _ (some 28) _ = _
    simp only [Act.put, List.setIfInBounds_toArray, List.set_cons_zero, List.set_cons_succ]
    rfl
  refine one_ (i := 9) (N := some 29) #[true, true, true, true, true, true, true, true, true, true, false, false, false] rfl rfl (by kernel_rfl) (by decide) (fun K hK => ?_)
  obtain ⟨v1, w7, hrun, hR7, hF7, hA7⟩ := app3_run (H5.out.step hbA.out).r ⟨slot, d⟩ 26 (by omega) ⟨w5.heap.size, 0, none⟩ 1 (C3.C_one (w := w5) ⟨slot, d⟩) (Nat.le_trans (Nat.le_trans H5.out.nr (Nat.le_of_lt (blk_lt H5.out.g))) hbA.out.size)
  refine event_app3 (by rfl) (.tmp 24) (.tmp 28) (by rfl) (.slice (some ⟨w5.heap.size, 0, none⟩) 1 1) (.slice A T.length c) (by rfl) (by rfl) hrun ?_
  refine hK.out _ _ ⟨hF7.cell hHeld.1 (fun e => (hne.out R e).1 rfl), hF7.cell hHeld.2.1 (fun e => Nat.lt_irrefl _ (hne.out _ e).2), hF7.cell hHeld.2.2 (fun e => Nat.lt_irrefl _ (hne.out _ e).2)⟩ (fun hHeld => ?_)
  clear hK K
  refine norm_ (a' := ?_) ?_ ?_
  rotate_left
  · show Act.put _ (some 29) _ = _
    simp only [Act.put, List.setIfInBounds_toArray, List.set_cons_zero, List.set_cons_succ]
    rfl
  obtain ⟨A5, c5, rfl⟩ := Kd.R_slice hR7
  obtain ⟨n5, hn5⟩ : ∃ n, (T ++ [(⟨slot, d⟩ : S114)]).length = n := ⟨_, rfl⟩
  rw [hn5] at hR7 hA7 ⊢
  clear hn5 hrun
  refine pure_ (i := 10) (N := some 30) (v := ?_) (a' := ?_) #[true, true, true, true, true, true, true, true, true, true, true, false, false] rfl rfl (by kernel_rfl) (fun _ _ _ h => h) (Or.inl ⟨by rfl, ?_⟩) ?_ ?_
  rotate_left
  · intro w'
    go_simp
    with_reducible rfl
  rotate_left
  · simp only [Act.put, List.setIfInBounds_toArray, List.set_cons_zero, List.set_cons_succ]
    rfl
  refine pure_ (i := 11) (N := some 31) (v := ?_) (a' := ?_) #[true, true, true, true, true, true, true, true, true, true, true, true, false] rfl rfl (by kernel_rfl) (fun _ _ _ h => h) (Or.inl ⟨by rfl, ?_⟩) ?_ ?_
  rotate_left
  · intro w'
    go_simp
    with_reducible rfl
  rotate_left
  · simp only [Act.put, List.setIfInBounds_toArray, List.set_cons_zero, List.set_cons_succ]
    rfl
  refine last_ (i := 12) (N := none) #[true, true, true, true, true, true, true, true, true, true, true, true, true] rfl rfl (by kernel_rfl) (by decide) (fun K hK => ?_)
  have hR7b := (hF7.blk R (Nat.lt_of_lt_of_le (blk_lt H5.out.g) hbA.out.size) (fun e => (hne.out R e).1 rfl)).trans (blk_below H5.out.g hbA.out)
  have hs := hHeld.1
  have hfs := blk_frozen hR7b 0
  refine skip_ (w1 := ?_) (by rfl) rfl ?_ ?_
  rotate_left
  · go_simp
    rfl
  refine hK.out _ _ ?_
  clear hK K
  refine done_ (by kernel_rfl) ?_
  go_wp2
  go_ret
  obtain ⟨v', k1, k2, k3⟩ := (H5.out.step hbA.out).put hF7 hR7 (by
    rcases hA7 with e | ⟨b, e, hb⟩
    · exact .inl e
    · exact .inr (fun b' hb' => by rw [e] at hb'; injection hb' with hb'; rw [← hb']; exact hb))
  refine ⟨rfl, ⟨v', k1, (Fr.of_below (below_step hb5.out hbA.out)).trans k2, ?_⟩⟩
  rcases k3 with e | e
  · exact .inl e
  · exact .inr (fun b hb => Nat.le_trans (Nat.le_trans hb5.out.size hbA.out.size) (e b hb))
/-- The reference's Put. -/
theorem rput_calls (h : RS N w R v T) (slot : Int) (d : S31) (b : Bool) (hp : putB T slot d = b) (hl : T.length ≤ 100000) : Calls Tryd.prog 16 #[.pointer (some ⟨R, 0, none⟩), .int .i64 slot, .agg #[.int .i64 d.f0, .int .u64 d.f1]] w fun e w' => e = .returned (.bool b) ∧ Aside0 (RSo N w R v w' (if b = true then T ++ [⟨slot, d⟩] else T)) := by
  cases b with
  | true => exact rput_yes h slot d hp hl
  | false =>
    refine (rput_no h slot d hp hl).mono ?_
    rintro e w' ⟨rfl, hb⟩
    exact ⟨rfl, ⟨h.go hb⟩⟩
set_option maxHeartbeats 4000000 in
set_option maxRecDepth 100000 in
theorem rdrop_yes (h : RS N w R v T) (id : Int) (k : Nat) (hk : k < T.length) (hp : plc id T 0 = (k : Int)) (s : Int) (hs : T[k].f0 = s) (hl : T.length ≤ 100000) :
    Calls Tryd.prog 18 #[.pointer (some ⟨R, 0, none⟩), .int .i64 id] w fun e w' => e = .returned (.agg #[.int .i64 s, .bool true]) ∧ Aside0 (RSo N w R v w' (T.take k ++ T.drop (k + 1))) := by
  have hbx : Below w.heap.size w (w.alloc (.cells #[.int .i64 0, .bool false] 39)) := below_alloc (Below.refl _ _) _
  have hx := blk_new w (.cells #[.int .i64 0, .bool false] 39)
  have hf := rfind_calls (h.step hbx) id (by omega)
  rw [hp] at hf
  obtain ⟨A, c, e0, hc, hC⟩ := Kd.R_reads h.r
  subst e0
  have HC := Aside0.mk hC
  obtain ⟨j, hj⟩ : ∃ j : Int, ((k + 1 : Nat) : Int) = j := ⟨_, rfl⟩
  have hjw : IntKind.i64.wrap ((k : Int) + 1) = j := by rw [i64_w]; unfold wrap64; omega
  have hjw2 : IntKind.i64.wrap j = j := by clear hjw; rw [i64_w]; unfold wrap64; omega
  obtain ⟨i0, hi0, hzz⟩ := Option.map_eq_some_iff.1 C3.info114
  simp only [Prod.mk.injEq] at hzz
  have hsz0 := hzz.2.1
  have q1 := cut_to (P := Tryd.prog) 26 114 .i64 Tryd.underlying26 hi0 A T.length c (k : Int) (by omega) (by omega) hc
  have q2 := cut_from (P := Tryd.prog) 26 114 .i64 Tryd.underlying26 hi0 3 hsz0 A T.length c j (by omega) (by omega)
  rw [Int.toNat_natCast] at q1
  obtain ⟨A4, hA4⟩ : ∃ A4, A4 = (if c = j.toNat then A else A.map (·.add (j.toNat * 3))) := ⟨_, rfl⟩
  rw [← hA4] at q2
  have HJ := Aside0.mk hj
  have HLL : Aside0 (T.length ≤ 100000 ∧ k < T.length ∧ j.toNat = k + 1) := ⟨⟨hl, hk, by omega⟩⟩
  have hk0 : ¬ (k : Int) < 0 := by omega
  have hk1 : 0 ≤ (k : Int) := by omega
  have hk2 : (k : Int) ≤ (T.length : Int) := by omega
  have hk3 : (k : Int) < (T.length : Int) := by omega
  have hj0 : 0 ≤ j := by omega
  have hj2 : j ≤ (T.length : Int) := by omega
  have H := Aside0.mk h
  have HA4 := Aside0.mk hA4
  have Hc := Aside0.mk hc
  have HS := Aside0.mk hs
  have HX := Aside0.mk hx
  have HBX := Aside0.mk hbx
  clear h hC hj hA4 hzz hsz0 hi0 hc hs hp hx hbx
  go_enter Tryd.func18, Tryd.ntmps18
  go_upto_region 4 with (go_at_call 62; refine hf.mono ?_; rintro e w1 ⟨rfl, hb1⟩; clear hf)
  have hb := Aside0.mk (below_step HBX.out hb1)
  have HX1 := Aside0.mk (blk_below HX.out hb1)
  have HM := Aside0.mk (H.out.step hb.out)
  have c0 : w1.cell? ⟨R, 0, none⟩ = some (.slice A T.length c) := (blk_cell HM.out.g 0).trans rfl
  obtain ⟨ad, e1, hx0, _, _⟩ := at_T114 (Kd.C_below HC.out hb.out) (k : Int) (by omega) hk3
  cases e1
  rw [Int.toNat_natCast, rd114 T k hk, HS.out] at hx0
  clear HX HBX hb1
  go_upto_region 5 with (fail)
  clear hx0
  refine start_ (n := 20) (S := fun w' => w'.cell? ⟨R, 0, none⟩ = some (.slice (some ad) T.length c)) (ds := [19]) #[false, false, false, false, false, false, false, false, false, false, false, false, false, false, false, false, false, false, false, false] (by kernel_rfl) rfl rfl c0 (fun hHeld => ?_)
  have hb2 := below_drew1 (Below.refl w1.heap.size w1)
  have HM2 := Aside0.mk (HM.out.step hb2)
  have hB2 := Aside0.mk (below_step hb.out hb2)
  have HX2 := Aside0.mk (blk_below HX1.out hb2)
  generalize w1.drew = W2 at hHeld HM2 hB2 HX2 ⊢
  clear c0 hb2 HM hb HX1
  have HS2 := Aside0.mk hHeld
  have HG2 := Aside0.mk HM2.out.g
  have HR2 : Aside0 (R < W2.heap.size) := ⟨blk_lt HM2.out.g⟩
  have HC2 := Aside0.mk (Kd.C_below HC.out hB2.out)
  have hbA := Aside0.mk (below_alloc (Below.refl W2.heap.size W2) (.cells #[] 114))
  have HCT : Aside0 (Kd.C k114 (W2.alloc (.cells #[] 114)) (some ad) k (T.take k)) := ⟨by have h := Kd.C_take (m := k) (Kd.C_below HC2.out hbA.out) (by have := HLL.out; omega); rw [List.length_take, Nat.min_eq_left (by have := HLL.out; omega)] at h; exact h⟩
  have HCD : Aside0 (Kd.C k114 W2 A4 (T.length - j.toNat) (T.drop j.toNat)) := ⟨by rw [HA4.out]; have h := Kd.C_drop (m := j.toNat) (c := c) HC2.out (by have := HLL.out; omega) Hc.out; rw [List.length_drop] at h; exact h⟩
  refine pure_ (i := 0) (N := some 21) (v := ?_) (a' := ?_) #[true, false, false, false, false, false, false, false, false, false, false, false, false, false, false, false, false, false, false, false] rfl rfl (by kernel_rfl) (fun _ _ _ h => h) (Or.inl ⟨by rfl, ?_⟩) ?_ ?_
  rotate_left
  · intro w'
    go_simp
    with_reducible rfl
  rotate_left
  · simp only [Act.put, List.setIfInBounds_toArray, List.set_cons_zero, List.set_cons_succ]
    rfl
  refine pure_ (i := 2) (N := some 23) (v := ?_) (a' := ?_) #[true, false, true, false, false, false, false, false, false, false, false, false, false, false, false, false, false, false, false, false] rfl rfl (by kernel_rfl) (fun _ _ _ h => h) (Or.inl ⟨by rfl, ?_⟩) ?_ ?_
  rotate_left
  · intro w'
    go_simp
    with_reducible rfl
  rotate_left
  · simp only [Act.put, List.setIfInBounds_toArray, List.set_cons_zero, List.set_cons_succ]
    rfl
  refine pure_ (i := 3) (N := some 24) (v := ?_) (a' := ?_) #[true, false, true, true, false, false, false, false, false, false, false, false, false, false, false, false, false, false, false, false] rfl rfl (by kernel_rfl) (fun _ _ _ h => h) (Or.inl ⟨by rfl, ?_⟩) ?_ ?_
  rotate_left
  · intro w'
    go_simp
    with_reducible rfl
  rotate_left
  · simp only [Act.put, List.setIfInBounds_toArray, List.set_cons_zero, List.set_cons_succ]
    rfl
  refine pure_ (i := 4) (N := some 25) (v := ?_) (a' := ?_) #[true, false, true, true, true, false, false, false, false, false, false, false, false, false, false, false, false, false, false, false] rfl rfl (by kernel_rfl) (fun _ _ _ h => h) (Or.inl ⟨by rfl, ?_⟩) ?_ ?_
  rotate_left
  · intro w'
    go_simp
    with_reducible rfl
  rotate_left
  · simp only [Act.put, List.setIfInBounds_toArray, List.set_cons_zero, List.set_cons_succ]
    rfl
  refine take_ (i := 5) (N := some 26) (v := ?_) (a' := ?_) #[true, false, true, true, true, true, false, false, false, false, false, false, false, false, false, false, false, false, false, false] rfl rfl (by kernel_rfl) (fun _ _ _ h => h) (Or.inl ⟨by rfl, ?_⟩) hHeld ?_ ?_
  rotate_left
  · intro w' s0
    go_simp
    with_reducible rfl
  rotate_left
  · simp only [Act.put, List.setIfInBounds_toArray, List.set_cons_zero, List.set_cons_succ]
    rfl
  refine pure_ (i := 6) (N := some 27) (v := ?_) (a' := ?_) #[true, false, true, true, true, true, true, false, false, false, false, false, false, false, false, false, false, false, false, false] rfl rfl (by kernel_rfl) (fun _ _ _ h => h) (Or.inl ⟨by rfl, ?_⟩) ?_ ?_
  rotate_left
  · intro w'
    go_simp
    with_reducible rfl
  rotate_left
  · simp only [Act.put, List.setIfInBounds_toArray, List.set_cons_zero, List.set_cons_succ]
    rfl
  refine pure_ (i := 7) (N := some 28) (v := ?_) (a' := ?_) #[true, false, true, true, true, true, true, true, false, false, false, false, false, false, false, false, false, false, false, false] rfl rfl (by kernel_rfl) (fun _ _ _ h => h) (Or.inl ⟨by rfl, ?_⟩) ?_ ?_
  rotate_left
  · intro w'
    go_simp
    with_reducible rfl
  rotate_left
  · simp only [Act.put, List.setIfInBounds_toArray, List.set_cons_zero, List.set_cons_succ]
    rfl
  refine pure_ (i := 9) (N := some 30) (v := ?_) (a' := ?_) #[true, false, true, true, true, true, true, true, false, true, false, false, false, false, false, false, false, false, false, false] rfl rfl (by kernel_rfl) (fun _ _ _ h => h) (Or.inl ⟨by rfl, ?_⟩) ?_ ?_
  rotate_left
  · intro w'
    go_simp
    with_reducible rfl
  rotate_left
  · simp only [Act.put, List.setIfInBounds_toArray, List.set_cons_zero, List.set_cons_succ]
    rfl
  refine pure_ (i := 10) (N := some 31) (v := ?_) (a' := ?_) #[true, false, true, true, true, true, true, true, false, true, true, false, false, false, false, false, false, false, false, false] rfl rfl (by kernel_rfl) (fun _ _ _ h => h) (Or.inl ⟨by rfl, ?_⟩) ?_ ?_
  rotate_left
  · intro w'
    go_simp
    with_reducible rfl
  rotate_left
  · simp only [Act.put, List.setIfInBounds_toArray, List.set_cons_zero, List.set_cons_succ]
    rfl
  refine pure_ (i := 11) (N := some 32) (v := ?_) (a' := ?_) #[true, false, true, true, true, true, true, true, false, true, true, true, false, false, false, false, false, false, false, false] rfl rfl (by kernel_rfl) (fun _ _ _ h => h) (Or.inl ⟨by rfl, ?_⟩) ?_ ?_
  rotate_left
  · intro w'
    go_simp
    with_reducible rfl
  rotate_left
  · simp only [Act.put, List.setIfInBounds_toArray, List.set_cons_zero, List.set_cons_succ]
    rfl
  refine take_ (i := 12) (N := some 33) (v := ?_) (a' := ?_) #[true, false, true, true, true, true, true, true, false, true, true, true, true, false, false, false, false, false, false, false] rfl rfl (by kernel_rfl) (fun _ _ _ h => h) (Or.inl ⟨by rfl, ?_⟩) hHeld ?_ ?_
  rotate_left
  · intro w' s0
    go_simp
    with_reducible rfl
  rotate_left
  · simp only [Act.put, List.setIfInBounds_toArray, List.set_cons_zero, List.set_cons_succ]
    rfl
  refine pure_ (i := 13) (N := some 34) (v := ?_) (a' := ?_) #[true, false, true, true, true, true, true, true, false, true, true, true, true, true, false, false, false, false, false, false] rfl rfl (by kernel_rfl) (fun _ _ _ h => h) (Or.inl ⟨by rfl, ?_⟩) ?_ ?_
  rotate_left
  · intro w'
    go_simp
    with_reducible rfl
  rotate_left
  · simp only [Act.put, List.setIfInBounds_toArray, List.set_cons_zero, List.set_cons_succ]
    rfl
  refine pure_ (i := 14) (N := some 35) (v := ?_) (a' := ?_) #[true, false, true, true, true, true, true, true, false, true, true, true, true, true, true, false, false, false, false, false] rfl rfl (by kernel_rfl) (fun _ _ _ h => h) (Or.inl ⟨by rfl, ?_⟩) ?_ ?_
  rotate_left
  · intro w'
    go_simp
    with_reducible rfl
  rotate_left
  · simp only [Act.put, List.setIfInBounds_toArray, List.set_cons_zero, List.set_cons_succ]
    rfl
  refine pure_ (i := 15) (N := some 36) (v := ?_) (a' := ?_) #[true, false, true, true, true, true, true, true, false, true, true, true, true, true, true, true, false, false, false, false] rfl rfl (by kernel_rfl) (fun _ _ _ h => h) (Or.inl ⟨by rfl, ?_⟩) ?_ ?_
  rotate_left
  · intro w'
    go_simp
    with_reducible rfl
  rotate_left
  · simp only [Act.put, List.setIfInBounds_toArray, List.set_cons_zero, List.set_cons_succ]
    rfl
  refine one_ (i := 1) (N := some 22) #[true, true, true, true, true, true, true, true, false, true, true, true, true, true, true, true, false, false, false, false] rfl rfl (by kernel_rfl) (by decide) (fun K hK => ?_)
  refine event_step (v := .slice (some ⟨W2.heap.size, 0, none⟩) 0 0) (w1 := W2.alloc (.cells #[] 114)) (by rfl) (by go_simp) ?_
  refine hK.out _ _ ((hbA.out.cell (p := ⟨R, 0, none⟩) HR2.out).trans hHeld) (fun hHeld => ?_)
  clear hK K
  refine norm_ (a' := ?_) ?_ ?_
  rotate_left
  · show Act.put _ (some 22) _ = _
    simp only [Act.put, List.setIfInBounds_toArray, List.set_cons_zero, List.set_cons_succ]
    rfl
  refine one_ (i := 8) (N := some 29) #[true, true, true, true, true, true, true, true, true, true, true, true, true, true, true, true, false, false, false, false] rfl rfl (by kernel_rfl) (by decide) (fun K hK => ?_)
  refine C3.step_rows (K := _) W2.heap.size (by rfl) (.tmp 22) (.tmp 28) (by rfl) (.slice (some ⟨W2.heap.size, 0, none⟩) 0 0) [] (some ad) k c (T.take k) (by rfl) (by rfl) (R3_lit0 W2) HCT.out hbA.out.size (by simp only [List.length_nil]; have := HLL.out; omega) ?_
  intro v3 w3 HV3 hb3
  have hb3 := Aside0.mk (hbA.out.trans hb3)
  have HV3 := Aside0.mk HV3
  refine hK.out _ _ ((hb3.out.cell (p := ⟨R, 0, none⟩) HR2.out).trans HS2.out) (fun hHeld => ?_)
  clear hK K
  refine norm_ (a' := ?_) ?_ ?_
  rotate_left
  · show Act.put _ (some 29) _ = _
    simp only [Act.put, List.setIfInBounds_toArray, List.set_cons_zero, List.set_cons_succ]
    rfl
  refine one_ (i := 16) (N := some 37) #[true, true, true, true, true, true, true, true, true, true, true, true, true, true, true, true, true, false, false, false] rfl rfl (by kernel_rfl) (by decide) (fun K hK => ?_)
  refine C3.step_rows (K := _) W2.heap.size (by rfl) (.tmp 29) (.tmp 36) (by rfl) v3 ([] ++ T.take k) A4 (T.length - j.toNat) (c - j.toNat) (T.drop j.toNat) (by rfl) (by rfl) HV3.out (Kd.C_below HCD.out hb3.out) hb3.out.size (by have := HLL.out; simp; omega) ?_
  intro v4 w4 HV4 hb4
  have hb4 := Aside0.mk (hb3.out.trans hb4)
  have HV4 := Aside0.mk HV4
  refine hK.out _ _ ((hb4.out.cell (p := ⟨R, 0, none⟩) HR2.out).trans HS2.out) (fun hHeld => ?_)
  clear hK K
  refine norm_ (a' := ?_) ?_ ?_
  rotate_left
  · show Act.put _ (some 37) _ = _
    simp only [Act.put, List.setIfInBounds_toArray, List.set_cons_zero, List.set_cons_succ]
    rfl
  refine pure_ (i := 17) (N := some 38) (v := ?_) (a' := ?_) #[true, true, true, true, true, true, true, true, true, true, true, true, true, true, true, true, true, true, false, false] rfl rfl (by kernel_rfl) (fun _ _ _ h => h) (Or.inl ⟨by rfl, ?_⟩) ?_ ?_
  rotate_left
  · intro w'
    go_simp
    with_reducible rfl
  rotate_left
  · simp only [Act.put, List.setIfInBounds_toArray, List.set_cons_zero, List.set_cons_succ]
    rfl
  refine pure_ (i := 18) (N := some 39) (v := ?_) (a' := ?_) #[true, true, true, true, true, true, true, true, true, true, true, true, true, true, true, true, true, true, true, false] rfl rfl (by kernel_rfl) (fun _ _ _ h => h) (Or.inl ⟨by rfl, ?_⟩) ?_ ?_
  rotate_left
  · intro w'
    go_simp
    with_reducible rfl
  rotate_left
  · simp only [Act.put, List.setIfInBounds_toArray, List.set_cons_zero, List.set_cons_succ]
    rfl
  refine last_ (i := 19) (N := none) #[true, true, true, true, true, true, true, true, true, true, true, true, true, true, true, true, true, true, true, true] rfl rfl (by kernel_rfl) (by decide) (fun K hK => ?_)
  obtain ⟨A5, c5, rfl⟩ := Kd.R_slice HV4.out
  have hB4 := Aside0.mk (blk_below HG2.out hb4.out)
  have hs : w4.cell? ⟨R, 0, none⟩ = some (.slice (some ad) T.length c) := (blk_cell hB4.out 0).trans rfl
  have hfs := blk_frozen hB4.out 0
  refine skip_ (w1 := ?_) (by rfl) rfl ?_ ?_
  rotate_left
  · go_simp
    rfl
  refine hK.out _ _ ?_
  clear hK K
  refine done_ (by kernel_rfl) ?_
  have hB5 := Aside0.mk (below_step hB2.out hb4.out)
  have hX5 := Aside0.mk (blk_below HX2.out hb4.out)
  have hXR : w.heap.size ≠ R := fun e => by have := blk_lt H.out.g; omega
  obtain ⟨n5, hmn⟩ : ∃ n, min k T.length + (T.length - j.toNat) = n := ⟨_, rfl⟩
  have hn5 : ([] ++ T.take k ++ T.drop j.toNat).length = n5 := by rw [← hmn]; simp
  have hLe : [] ++ T.take k ++ T.drop j.toNat = T.take k ++ T.drop (k + 1) := by rw [List.nil_append, HLL.out.2.2]
  have hR9 := HV4.out
  rw [hLe] at hR9 hn5
  rw [hn5] at hR9
  have hat := (own_base (C3.own_of_R hR9))
  have hput := Aside0.mk ((H.out).put2 (Fr.of_below hB5.out) (Kd.R_lower hR9 (Nat.le_trans (Nat.le_trans H.out.nr (Nat.le_of_lt (blk_lt H.out.g))) hB2.out.size)) (.inr (fun b hb => Nat.le_trans hB2.out.size (hat b hb))))
  have hXlt : w.heap.size < W2.heap.size := blk_lt HX2.out
  have hown : Aside0 (∀ k, X2 R (Value.slice A5 n5 c5) k → ¬ k = w.heap.size) := ⟨fun k hk e => by
    rcases hk with rfl | hk
    · exact hXR e.symm
    · have := hat k hk; omega⟩
  have hown2 : Aside0 (∀ b, (Value.slice A5 n5 c5).ownBlock = some b → w.heap.size ≤ b) := ⟨fun b hb => Nat.le_trans hB2.out.size (hat b hb)⟩
  have hX6 := Aside0.mk (((Fr.set w4 R 0 (.slice A5 n5 c5)).blk w.heap.size (blk_lt hX5.out) hXR).trans hX5.out)
  simp only [hLe, hn5, hmn]
  generalize w4.setCell ⟨R, 0, none⟩ (.slice A5 n5 c5) = w6 at hput hX6 ⊢
  clear hX5 hb4 HV4 hB4 hs hfs hHeld hR9 hat HV3 hb3 hXlt hXR
  obtain ⟨X, hXe⟩ : ∃ X, X = w.heap.size := ⟨_, rfl⟩
  rw [← hXe] at hX6 hown hown2 ⊢
  have HXe := Aside0.mk hXe
  clear hXe
  have y0 : w6.cell? ⟨X, 0, none⟩ = some (.int .i64 0) := (blk_cell hX6.out 0).trans rfl
  have y1 : w6.cell? ⟨X, 1, none⟩ = some (.bool false) := (blk_cell hX6.out 1).trans rfl
  have z0 := blk_frozen hX6.out 0
  have z1 := blk_frozen hX6.out 1
  go_wp2
  refine bodyPost_ret (results_cell_row rfl _ _ X 39 #[.int .i64 s, .bool true] (0, 0) _ rfl (blk_set (blk_set hX6.out 0 _) 1 _) Tryd.underlying39 rfl (by kernel_rfl)) rfl ?_
  have f1 : Fr (fun k => k = X) w6 ((w6.setCell ⟨X, 0, none⟩ (.int .i64 s)).setCell ⟨X, 1, none⟩ (.bool true)) := (Fr.set w6 X 0 _).trans (Fr.set _ X 1 _)
  refine ⟨rfl, ⟨_, hput.out.1.keep f1 (fun k hk => hown.out k hk), hput.out.2.then_ f1 (fun b hb => .inr (by rw [← HXe.out]; exact Nat.le_of_eq hb.symm)), .inr (by rw [← HXe.out]; exact hown2.out)⟩⟩
end
end Go.Proofs.YtedolmjealgeoaaDoor.Rg
