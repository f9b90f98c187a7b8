/- Ring.Put as a call. Conditions: the ring lies in memory as told. -/
import Derived.Test.YtedolmjealgeoaaRp
import Derived.Deep.RegionHeld3
import Derived.WalkArith
set_option linter.unusedVariables false
namespace Go.Proofs.Ytedolmjealgeoaa.Rg
open Go.RowKit Go.Maps Go.Proofs.Ytedolmjealgeoaa.PBase Go.Proofs.Ytedolmjealgeoaa.Cat Go.Proofs.YtedolmjealgeoaaW.PrintWords Go.Proofs.YtedolmjealgeoaaW.PrintLast Go.Proofs.YtedolmjealgeoaaW.PrintMore
theorem wf_slot {j : Nat} (hj : j < 64) : (Lit.int .i64 (j : Int)).wf = true  := Go.WalkArith.wf_i64 (by omega)
/-- Where a call leaves a ring. -/
def RGo (N : Nat) (F : Nat → Prop) (W w' : World) (R : Nat) (T : List S114) : Prop := ∃ F', RI N F' w' R T ∧ (∀ k, F' k → F k ∨ W.heap.size ≤ k) ∧ Fr F W w'
/-- The rows' blocks are none of the ring's and the map's. -/
theorem own_apart {N : Nat} {W : World} {R m : Nat} {cs : Array Value} {q : IntKind} {e : TypeId} {f : Int → Option Int} {c : Nat} {ok : Nat → Prop} {v : Value} {L : List S24} (hR : W.heap[R]? = some (.cells cs 40 (0, 0))) (hM : MI q e W m f c) (h : Kd.R k24 24 W N ok v L) (b : Nat) (hb : v.ownBlock = some b) : b < W.heap.size ∧ b ≠ R ∧ b ≠ m := by
  obtain ⟨cells, hcell⟩ := own_typed (own_of_R h) b hb
  refine ⟨blk_lt hcell, fun e => ?_, fun e => ?_⟩
  · rw [e, hR] at hcell
    injection hcell with hcell
    injection hcell with _ hcell
    cases hcell
  · obtain ⟨es, ck, hbm⟩ := hM.blk
    rw [e, hbm] at hcell
    cases hcell
/-- A slot's row turned, the map, the mask: the ring behind it. -/
theorem RI.rebuild {N : Nat} {F : Nat → Prop} {W w' : World} {R : Nat} {T T' : List S114} {m : Nat} {fu fu' : Int} {vs : Nat → Value} {j : Nat} {v1 : Value} (hF : F R) (lt : ∀ k, F k → N ≤ k ∧ k < W.heap.size) (hR0 : W.heap[R]? = some (.cells (rcells vs m fu) 40 (0, 0))) (hM0 : MI .i64 3 W m (slotOf T) T.length)
    (a5 : ∀ j : Nat, j < 64 → Kd.R k24 24 W N (fun _ => True) (vs j) (psort (atS T j))) (a6 : ∀ i j b : Nat, i < 64 → j < 64 → (vs i).ownBlock = some b → (vs j).ownBlock = some b → i = j) (a7 : F m) (a8 : ∀ j b : Nat, j < 64 → (vs j).ownBlock = some b → F b) (hj : j < 64)
    (hf : Fr (fun k => k = R ∨ k = m ∨ (vs j).ownBlock = some k) W w') (hR : w'.heap[R]? = some (.cells (rcells (vput vs j v1) m fu') 40 (0, 0))) (hM : MI .i64 3 w' m (slotOf T') T'.length) (hU : Mk.U fu') (hh : ∀ j : Nat, j < 64 → Mk.hs fu' j = decide (atS T' j ≠ []))
    (hrow : Kd.R k24 24 w' N (fun _ => True) v1 (psort (atS T' j))) (hAt : v1.ownBlock = (vs j).ownBlock ∨ ∃ b, v1.ownBlock = some b ∧ W.heap.size ≤ b) (hpt : PT T') (ho : ∀ i : Nat, i < 64 → i ≠ j → psort (atS T' i) = psort (atS T i)) : RGo N F W w' R T' := by
  refine ⟨fun k => F k ∨ v1.ownBlock = some k, ⟨hpt, ⟨m, fu', vput vs j v1, hR, hM, hU, hh, fun i hi => ?_, fun i i' b hi hi' e e' => ?_, .inl a7, fun i b hi e => ?_⟩, .inl hF, fun k hk => ?_⟩, fun k hk => ?_, hf.weak (fun k hk => ?_)⟩
  · by_cases e : i = j
    · subst e
      rw [vput_same]
      exact hrow
    · rw [vput_other e, ho i hi e]
      have h1 := Kd.R_tight2 rfl (a5 i hi)
      refine Kd.R_mono (Kd.R_kept h1 (S := fun k => k = R ∨ k = m ∨ (vs j).ownBlock = some k) ⟨hf.size, fun i hi hn => hf.blk i hi hn⟩ (fun k hk => ?_)) (fun _ _ => trivial)
      rintro (hk2 | hk2 | hk2)
      · exact (own_apart hR0 hM0 (a5 i hi) k hk.1.symm).2.1 hk2
      · exact (own_apart hR0 hM0 (a5 i hi) k hk.1.symm).2.2 hk2
      · exact e (a6 i j k hi hj hk.1.symm hk2)
  · by_cases e1 : i = j
    · by_cases e2 : i' = j
      · omega
      · rw [e1, vput_same] at e
        rw [vput_other e2] at e'
        rcases hAt with ha | ⟨b', ha, hb⟩
        · rw [ha] at e
          exact e1.trans (a6 j i' b hj hi' e e')
        · rw [ha] at e
          injection e with e
          have := (own_apart hR0 hM0 (a5 i' hi') b e').1
          omega
    · by_cases e2 : i' = j
      · rw [e2, vput_same] at e'
        rw [vput_other e1] at e
        rcases hAt with ha | ⟨b', ha, hb⟩
        · rw [ha] at e'
          exact (a6 i j b hi hj e e').trans e2.symm
        · rw [ha] at e'
          injection e' with e'
          have := (own_apart hR0 hM0 (a5 i hi) b e).1
          omega
      · rw [vput_other e1] at e
        rw [vput_other e2] at e'
        exact a6 i i' b hi hi' e e'
  · by_cases e1 : i = j
    · rw [e1, vput_same] at e
      exact .inr e
    · rw [vput_other e1] at e
      exact .inl (a8 i b hi e)
  · rcases hk with hk | hk
    · exact ⟨(lt k hk).1, Nat.lt_of_lt_of_le (lt k hk).2 hf.size⟩
    · exact ⟨own_base (own_of_R hrow) k hk, own_lt (own_of_R hrow) k hk⟩
  · rcases hk with hk | hk
    · exact .inl hk
    · rcases hAt with ha | ⟨b, ha, hb⟩
      · rw [ha] at hk
        exact .inl (a8 j k hj hk)
      · rw [ha] at hk
        injection hk with hk
        exact .inr (hk ▸ hb)
  · rcases hk with rfl | rfl | hk
    · exact hF
    · exact a7
    · exact a8 j k hj hk
theorem W10 {w w' : World} (h : Below w.heap.size w w') : Below w.heap.size w w' := h
section
variable {N : Nat} {F : Nat → Prop} {W : World} {R : Nat} {T : List S114}
theorem put_out (h : RI N F W R T) (slot : Int) (d : S24) (hj : ¬ (0 ≤ slot ∧ slot < 64)) : Calls Try.prog 5 #[.pointer (some ⟨R, 0, none⟩), .int .i64 slot, .agg #[.int .i64 d.f0, .int .u64 d.f1]] W fun e w' => e = .returned (.bool false) ∧ Below W.heap.size W w' := by
  have hbx : Below W.heap.size W (W.alloc (.cells #[.int .i64 d.f0, .int .u64 d.f1] 24)) := below_alloc (Below.refl _ _) _
  go_enter Try.func5, Try.ntmps5
  go_wp2_with (go_at_call 12; refine (is_calls _ R slot false (by simpa using hj)).mono ?_; rintro e w1 ⟨rfl, hb1⟩)
  go_ret
  exact ⟨rfl, below_step hbx hb1⟩
theorem put_nil (W : World) (slot : Int) (d : S24) : Calls Try.prog 5 #[.pointer none, .int .i64 slot, .agg #[.int .i64 d.f0, .int .u64 d.f1]] W fun e w' => e = .returned (.bool false) ∧ Below W.heap.size W w' := by
  have hbx : Below W.heap.size W (W.alloc (.cells #[.int .i64 d.f0, .int .u64 d.f1] 24)) := below_alloc (Below.refl _ _) _
  go_enter Try.func5, Try.ntmps5
  go_wp2_with (go_at_call 12; refine (is_nil _ slot).mono ?_; rintro e w1 ⟨rfl, hb1⟩)
  go_ret
  exact ⟨rfl, below_step hbx hb1⟩
set_option maxHeartbeats 4000000 in
set_option maxRecDepth 100000 in
theorem put_twice (h : RI N F W R T) (j : Nat) (hj : j < 64) (d : S24) (hd : d.f0 ∈ tid T) (hw : (Lit.int .i64 d.f0).wf = true) : Calls Try.prog 5 #[.pointer (some ⟨R, 0, none⟩), .int .i64 j, .agg #[.int .i64 d.f0, .int .u64 d.f1]] W fun e w' => e = .returned (.bool false) ∧ Below W.heap.size W w' := by
  obtain ⟨l, hl, hld⟩ := tid_in.1 hd
  obtain ⟨h1, ⟨m, fu, vs, a1, a2, a3, a4, a5, a6, a7, a8⟩, h3, h4⟩ := h
  have es : slotOf T d.f0 = some l.f0 := by rw [← hld]; exact slotOf_mem h1.nd hl
  have hbx : Below W.heap.size W (W.alloc (.cells #[.int .i64 d.f0, .int .u64 d.f1] 24)) := below_alloc (Below.refl _ _) _
  have hx := blk_new W (.cells #[.int .i64 d.f0, .int .u64 d.f1] 24)
  have HM := Aside0.mk a2
  have HR := Aside0.mk a1
  have hj2 : (j : Int) < 64 := by omega
  clear a1 a2 a3 a4 a5 a6 a7 a8 h1 h4 hd hl hld
  go_enter Try.func5, Try.ntmps5
  go_upto_region 3 with (go_at_call 12; refine (is_calls _ R j true (by simp; omega)).mono ?_; rintro e w1 ⟨rfl, hb1⟩; have hb := Aside0.mk (below_step hbx hb1); have hx1 := blk_below hx hb1)
  have hR1 := blk_below HR.out hb.out
  have c1 : w1.cell? ⟨R, 64, none⟩ = some (.map (some m)) := (blk_cell hR1 64).trans (rc_map _ _ _)
  have x0 : w1.cell? ⟨W.heap.size, 0, none⟩ = some (.int .i64 d.f0) := (blk_cell hx1 0).trans rfl
  have hlook := (HM.out.fr (F := fun _ => False) (Fr.of_below hb.out) (fun h => h)).look ek3 hw
  rw [es] at hlook
  clear hR1 hx1 hb1 hx hbx es
  go_quiet (fail)
  go_wp2
  go_ret
  exact ⟨rfl, by repeat (first | exact hb.out | apply pw_below_drewN | apply below_drew1)⟩
set_option maxHeartbeats 4000000 in
set_option maxRecDepth 100000 in
theorem put_calls (h : RI N F W R T) (j : Nat) (hj : j < 64) (d : S24) (hd : d.f0 ∉ tid T) (hw : (Lit.int .i64 d.f0).wf = true) (hl : T.length ≤ 100000) : Calls Try.prog 5 #[.pointer (some ⟨R, 0, none⟩), .int .i64 j, .agg #[.int .i64 d.f0, .int .u64 d.f1]] W fun e w' => e = .returned (.bool true) ∧ Aside0 (RGo N F W w' R (⟨j, d⟩ :: T)) := by
  have hle := h.len_le (j : Int)
  have es := slotOf_none.2 hd
  have es2 := Aside0.mk es
  have hd2 := Aside0.mk hd
  obtain ⟨h1, ⟨m, fu, vs, a1, a2, a3, a4, a5, a6, a7, a8⟩, h3, h4⟩ := h
  obtain ⟨A, c, e0, hc, hC⟩ := Kd.R_reads (a5 j hj)
  have e1 : rcells vs m fu = rcells (vput vs j (.slice A (psort (atS T j)).length c)) m fu := by rw [← e0]; congr 1; funext k; unfold vput; split <;> simp_all
  have hbx : Below W.heap.size W (W.alloc (.cells #[.int .i64 d.f0, .int .u64 d.f1] 24)) := below_alloc (Below.refl _ _) _
  have hx := blk_new W (.cells #[.int .i64 d.f0, .int .u64 d.f1] 24)
  have HM := Aside0.mk a2
  have HR := Aside0.mk a1
  have HU := Aside0.mk (And.intro a3 a4)
  have HA := Aside0.mk (And.intro h4 (And.intro a5 (And.intro a6 (And.intro a7 a8))))
  have HP := Aside0.mk h1
  have HV := Aside0.mk (a5 j hj)
  rw [e0] at HV
  have hRl : Aside0 (R < W.heap.size) := ⟨(h4 R h3).2⟩
  have hmR : Aside0 (m < W.heap.size ∧ m ≠ R) := ⟨a2.lt, fun e => by obtain ⟨es, ck, hb⟩ := a2.blk; rw [e, a1] at hb; cases hb⟩
  have hvb : Aside0 (∀ b, (vs j).ownBlock = some b → b < W.heap.size ∧ b ≠ R ∧ b ≠ m) := ⟨fun b hb => by
    have hlt := (h4 b (a8 j b hj hb)).2
    obtain ⟨cells, hcell⟩ := own_typed (own_of_R (a5 j hj)) b hb
    refine ⟨hlt, fun e => ?_, fun e => ?_⟩
    · rw [e, a1] at hcell
      injection hcell with hcell
      injection hcell with _ hcell
      cases hcell
    · obtain ⟨es, ck, hbm⟩ := a2.blk
      rw [e, hbm] at hcell
      cases hcell⟩
  rw [e0] at hvb
  have HC := Aside0.mk hC
  have E0 := Aside0.mk e0
  have E1 := Aside0.mk e1
  have hj2 : (j : Int) < 64 := by omega
  clear a1 a2 a3 a4 a5 a6 a7 a8 h1 h4 hd e0 e1 hC
  obtain ⟨L, hL⟩ : ∃ L, psort (atS T j) = L := ⟨_, rfl⟩
  rw [hL] at HV hvb HC E0 E1 hle hc
  have HL := Aside0.mk hL
  clear hL
  go_enter Try.func5, Try.ntmps5
  go_upto_region 3 with (go_at_call 12; refine (is_calls _ R j true (by simp; omega)).mono ?_; rintro e w1 ⟨rfl, hb1⟩; have hb := Aside0.mk (below_step hbx hb1); have hx1 := blk_below hx hb1)
  have hR1 := blk_below HR.out hb.out
  have c1 : w1.cell? ⟨R, 64, none⟩ = some (.map (some m)) := (blk_cell hR1 64).trans (rc_map _ _ _)
  have x0 : w1.cell? ⟨W.heap.size, 0, none⟩ = some (.int .i64 d.f0) := (blk_cell hx1 0).trans rfl
  have hlook := (HM.out.fr (F := fun _ => False) (Fr.of_below hb.out) (fun h => h)).look ek3 hw
  rw [es] at hlook
  have hX1 := Aside0.mk hx1
  clear hR1 hb1 hx hbx es hx1
  go_quiet (fail)
  clear hlook c1 x0
  go_upto_region 6 with (fail)
  have hb3 := Aside0.mk (pw_below_drewN hb.out nq)
  have hX3 := Aside0.mk (show (w1.drewN nq).heap[W.heap.size]? = _ from hX1.out)
  generalize w1.drewN nq = w3 at hb3 hX3 ⊢
  clear hb hX1
  have hR3 := Aside0.mk (blk_below HR.out hb3.out)
  have kp : Aside0 (∀ w', Below w3.heap.size w3 w' → w'.cell? ⟨R, j, none⟩ = some (.slice A L.length c) ∧ w'.cell? ⟨W.heap.size, 0, none⟩ = some (.int .i64 d.f0) ∧ w'.cell? ⟨W.heap.size, 1, none⟩ = some (.int .u64 d.f1)) := ⟨fun w' hb => by
    have g1 := blk_below hR3.out hb
    have g2 := blk_below hX3.out hb
    refine ⟨(blk_cell g1 j).trans ((rc_at _ _ _ hj).trans (by rw [E0.out])), (blk_cell g2 0).trans rfl, (blk_cell g2 1).trans rfl⟩⟩
  obtain ⟨kk, hkk⟩ : ∃ kk, bgo L d L.length 0 L.length = kk := ⟨_, rfl⟩
  have hkk := Aside0.mk hkk
  have hkl : kk ≤ L.length := by rw [← hkk.out]; exact bgo_le L d L.length 0 L.length (Nat.zero_le _)
  have hbD := Aside0.mk (below_drew1 (Below.refl w3.heap.size w3))
  have HC3 := Aside0.mk (Kd.C_below HC.out (below_step hb3.out hbD.out))
  go_region_held3 (fun w' => w'.cell? ⟨R, j, none⟩ = some (.slice A L.length c) ∧ w'.cell? ⟨W.heap.size, 0, none⟩ = some (.int .i64 d.f0) ∧ w'.cell? ⟨W.heap.size, 1, none⟩ = some (.int .u64 d.f1)) (first | exact kp.out _ hbD.out | exact kp.out _ (below_step hbD.out hb4)) ((go_at_call 13; have hT := bs_walk A c L d _ HC3.out (by omega); rw [hkk.out] at hT; refine hT.mono ?_; clear hT; rintro e w4 ⟨bb, rfl, hb4⟩))
  go_wp2
  have hb5 := Aside0.mk (below_step hbD.out hb4)
  clear hb4 hbD HC3
  have hX4 := Aside0.mk (blk_below hX3.out hb5.out)
  have hR4 := Aside0.mk (blk_below hR3.out hb5.out)
  have hbT := Aside0.mk (below_step hb3.out hb5.out)
  have hV4 := Aside0.mk (Kd.R_below HV.out hbT.out)
  clear hR3 hX3
  refine start_ (n := 16) (S := fun w' => w'.cell? ⟨R, j, none⟩ = some (.slice A L.length c) ∧ w'.cell? ⟨W.heap.size, 0, none⟩ = some (.int .i64 d.f0) ∧ w'.cell? ⟨W.heap.size, 1, none⟩ = some (.int .u64 d.f1)) (ds := [15]) #[false, false, false, false, false, false, false, false, false, false, false, false, false, false, false, false] (by kernel_rfl) rfl rfl (kp.out _ (below_drew1 hb5.out)) (fun hHeld => ?_)
  replace hb5 := Aside0.mk (below_drew1 hb5.out)
  replace hX4 := Aside0.mk (show w4.drew.heap[W.heap.size]? = _ from hX4.out)
  replace hR4 := Aside0.mk (show w4.drew.heap[R]? = _ from hR4.out)
  replace hbT := Aside0.mk (below_drew1 hbT.out)
  replace hV4 := Aside0.mk (Kd.R_drew hV4.out)
  generalize w4.drew = w5 at hHeld hb5 hX4 hR4 hbT hV4 ⊢
  clear kp
  have hbA := Aside0.mk (below_alloc (Below.refl w5.heap.size w5) (.cells #[.int .i64 d.f0, .int .u64 d.f1] 24))
  refine pure_ (i := 0) (N := some 37) (v := ?_) (a' := ?_) #[true, false, false, false, false, false, false, false, false, false, false, false, false, false, false, false] rfl rfl (by kernel_rfl) (fun _ _ _ h => h) (Or.inl ⟨by rfl, ?_⟩) ?_ ?_
  rotate_left
  · intro w'
    go_simp
    with_reducible rfl
  rotate_left
  · simp only [Act.put, List.setIfInBounds_toArray, List.set_cons_zero, List.set_cons_succ]
    rfl
  refine pure_ (i := 1) (N := some 38) (v := ?_) (a' := ?_) #[true, true, false, false, false, false, false, false, false, false, false, false, false, false, false, false] rfl rfl (by kernel_rfl) (fun _ _ _ h => h) (Or.inl ⟨by rfl, ?_⟩) ?_ ?_
  rotate_left
  · intro w'
    go_simp
    with_reducible rfl
  rotate_left
  · simp only [Act.put, List.setIfInBounds_toArray, List.set_cons_zero, List.set_cons_succ]
    rfl
  refine pure_ (i := 2) (N := some 39) (v := ?_) (a' := ?_) #[true, true, true, false, false, false, false, false, false, false, false, false, false, false, false, false] rfl rfl (by kernel_rfl) (fun _ _ _ h => h) (Or.inl ⟨by rfl, ?_⟩) ?_ ?_
  rotate_left
  · intro w'
    go_simp
    with_reducible rfl
  rotate_left
  · simp only [Act.put, List.setIfInBounds_toArray, List.set_cons_zero, List.set_cons_succ]
    rfl
  refine pure_ (i := 3) (N := some 40) (v := ?_) (a' := ?_) #[true, true, true, true, false, false, false, false, false, false, false, false, false, false, false, false] rfl rfl (by kernel_rfl) (fun _ _ _ h => h) (Or.inl ⟨by rfl, ?_⟩) ?_ ?_
  rotate_left
  · intro w'
    go_simp
    with_reducible rfl
  rotate_left
  · simp only [Act.put, List.setIfInBounds_toArray, List.set_cons_zero, List.set_cons_succ]
    rfl
  refine pure_ (i := 4) (N := some 41) (v := ?_) (a' := ?_) #[true, true, true, true, true, false, false, false, false, false, false, false, false, false, false, false] rfl rfl (by kernel_rfl) (fun _ _ _ h => h) (Or.inl ⟨by rfl, ?_⟩) ?_ ?_
  rotate_left
  · intro w'
    go_simp
    with_reducible rfl
  rotate_left
  · simp only [Act.put, List.setIfInBounds_toArray, List.set_cons_zero, List.set_cons_succ]
    rfl
  refine pure_ (i := 5) (N := some 42) (v := ?_) (a' := ?_) #[true, true, true, true, true, true, false, false, false, false, false, false, false, false, false, false] rfl rfl (by kernel_rfl) (fun _ _ _ h => h) (Or.inl ⟨by rfl, ?_⟩) ?_ ?_
  rotate_left
  · intro w'
    go_simp
    with_reducible rfl
  rotate_left
  · simp only [Act.put, List.setIfInBounds_toArray, List.set_cons_zero, List.set_cons_succ]
    rfl
  refine pure_ (i := 6) (N := some 43) (v := ?_) (a' := ?_) #[true, true, true, true, true, true, true, false, false, false, false, false, false, false, false, false] rfl rfl (by kernel_rfl) (fun _ _ _ h => h) (Or.inl ⟨by rfl, ?_⟩) ?_ ?_
  rotate_left
  · intro w'
    go_simp
    with_reducible rfl
  rotate_left
  · simp only [Act.put, List.setIfInBounds_toArray, List.set_cons_zero, List.set_cons_succ]
    rfl
  refine take_ (i := 7) (N := some 44) (v := ?_) (a' := ?_) #[true, true, true, true, true, true, true, true, false, false, false, false, false, false, false, false] rfl rfl (by kernel_rfl) (fun _ _ _ h => h) (Or.inl ⟨by rfl, ?_⟩) hHeld ?_ ?_
  rotate_left
  · rintro w' ⟨s0, s1, s2⟩
    go_simp
    with_reducible rfl
  rotate_left
  · simp only [Act.put, List.setIfInBounds_toArray, List.set_cons_zero, List.set_cons_succ]
    rfl
  refine pure_ (i := 8) (N := some 45) (v := ?_) (a' := ?_) #[true, true, true, true, true, true, true, true, true, false, false, false, false, false, false, false] rfl rfl (by kernel_rfl) (fun _ _ _ h => h) (Or.inl ⟨by rfl, ?_⟩) ?_ ?_
  rotate_left
  · intro w'
    go_simp
    with_reducible rfl
  rotate_left
  · simp only [Act.put, List.setIfInBounds_toArray, List.set_cons_zero, List.set_cons_succ]
    rfl
  refine take_ (i := 9) (N := some 46) (v := ?_) (a' := ?_) #[true, true, true, true, true, true, true, true, true, true, false, false, false, false, false, false] rfl rfl (by kernel_rfl) (fun _ _ _ h => h) (Or.inl ⟨by rfl, ?_⟩) hHeld ?_ ?_
  rotate_left
  · rintro w' ⟨s0, s1, s2⟩
    go_simp
    with_reducible rfl
  rotate_left
  · simp only [Act.put, List.setIfInBounds_toArray, List.set_cons_zero, List.set_cons_succ]
    rfl
  refine pure_ (i := 12) (N := some 49) (v := ?_) (a' := ?_) #[true, true, true, true, true, true, true, true, true, true, false, false, true, false, false, false] rfl rfl (by kernel_rfl) (fun _ _ _ h => h) (Or.inl ⟨by rfl, ?_⟩) ?_ ?_
  rotate_left
  · intro w'
    go_simp
    with_reducible rfl
  rotate_left
  · simp only [Act.put, List.setIfInBounds_toArray, List.set_cons_zero, List.set_cons_succ]
    rfl
  refine pure_ (i := 13) (N := some 50) (v := ?_) (a' := ?_) #[true, true, true, true, true, true, true, true, true, true, false, false, true, true, false, false] rfl rfl (by kernel_rfl) (fun _ _ _ h => h) (Or.inl ⟨by rfl, ?_⟩) ?_ ?_
  rotate_left
  · intro w'
    go_simp
    with_reducible rfl
  rotate_left
  · simp only [Act.put, List.setIfInBounds_toArray, List.set_cons_zero, List.set_cons_succ]
    rfl
  refine one_ (i := 10) (N := some 47) #[true, true, true, true, true, true, true, true, true, true, true, false, true, true, false, false] rfl rfl (by kernel_rfl) (by decide) (fun K hK => ?_)
  refine event_step (v := .slice (some ⟨w5.heap.size, 0, none⟩) 1 1) (w1 := w5.alloc (.cells #[.int .i64 d.f0, .int .u64 d.f1] 24)) (by rfl) (by go_simp) ?_
  refine hK.out _ _ ⟨(hbA.out.cell (World.block_lt_of_cell? _ _ hHeld.1)).trans hHeld.1, (hbA.out.cell (World.block_lt_of_cell? _ _ hHeld.2.1)).trans hHeld.2.1, (hbA.out.cell (World.block_lt_of_cell? _ _ hHeld.2.2)).trans hHeld.2.2⟩ (fun hHeld => ?_)
  clear hK K
  refine norm_ (a' := ?_) ?_ ?_
  rotate_left
  · show Act.put _ (some 47) _ = _
    simp only [Act.put, List.setIfInBounds_toArray, List.set_cons_zero, List.set_cons_succ]
    rfl
  refine one_ (i := 11) (N := some 48) #[true, true, true, true, true, true, true, true, true, true, true, true, true, true, false, false] rfl rfl (by kernel_rfl) (by decide) (fun K hK => ?_)
  refine goes_ Try.func15 (by kernel_rfl) rfl #[.slice A L.length c, .int .i64 kk, .slice (some ⟨w5.heap.size, 0, none⟩) 1 1] (by rfl) rfl rfl (by simp only [List.map_toArray, List.map_cons, List.map_nil]; rfl) ?_
  have hT := insert_calls (Kd.R_below hV4.out hbA.out) d kk hkl (by omega) w5.heap.size (blk_new w5 _) (fun e => by have := (hvb.out _ e).1; have := hbT.out.size; omega) (Nat.le_trans (Nat.le_trans (HA.out.1 R h3).1 (Nat.le_of_lt (HA.out.1 R h3).2)) (Nat.le_trans hbT.out.size hbA.out.size))
  refine hT.mono ?_
  clear hT
  rintro e w7 ⟨v1, rfl, hR7, hF7, hA7⟩
  refine ⟨_, rfl, ?_⟩
  refine hK.out _ _ ⟨hF7.cell hHeld.1 (fun e => (hvb.out R e).2.1 rfl), hF7.cell hHeld.2.1 (fun e => Nat.lt_irrefl _ (hvb.out _ e).1), hF7.cell hHeld.2.2 (fun e => Nat.lt_irrefl _ (hvb.out _ e).1)⟩ (fun hHeld => ?_)
  clear hK K
  refine norm_ (a' := ?_) ?_ ?_
  rotate_left
  · show Act.put _ (some 48) _ = _
    simp only [Act.put, List.setIfInBounds_toArray, List.set_cons_zero, List.set_cons_succ]
    rfl
  refine pure_ (i := 14) (N := some 51) (v := ?_) (a' := ?_) #[true, true, true, true, true, true, true, true, true, true, true, true, true, true, true, false] rfl rfl (by kernel_rfl) (fun _ _ _ h => h) (Or.inl ⟨by rfl, ?_⟩) ?_ ?_
  rotate_left
  · intro w'
    go_simp
    with_reducible rfl
  rotate_left
  · simp only [Act.put, List.setIfInBounds_toArray, List.set_cons_zero, List.set_cons_succ]
    rfl
  refine last_ (i := 15) (N := none) #[true, true, true, true, true, true, true, true, true, true, true, true, true, true, true, true] rfl rfl (by kernel_rfl) (by decide) (fun K hK => ?_)
  obtain ⟨A5, c5, rfl⟩ := Kd.R_slice hR7
  obtain ⟨n5, hn5⟩ : ∃ n, (L.take kk ++ d :: L.drop kk).length = n := ⟨_, rfl⟩
  rw [hn5] at hR7 hA7 ⊢
  clear hn5
  have hR7b := Aside0.mk ((hF7.blk R (Nat.lt_of_lt_of_le (blk_lt hR4.out) hbA.out.size) (fun e => (hvb.out R e).2.1 rfl)).trans (blk_below hR4.out hbA.out))
  have hX7 := Aside0.mk ((hF7.blk W.heap.size (Nat.lt_of_lt_of_le (blk_lt hX4.out) hbA.out.size) (fun e => Nat.lt_irrefl _ (hvb.out _ e).1)).trans (blk_below hX4.out hbA.out))
  have hs := hHeld.1
  have hfs := blk_frozen hR7b.out j
  refine skip_ (w1 := ?_) (by rfl) rfl ?_ ?_
  rotate_left
  · go_simp
    rfl
  refine hK.out _ _ ?_
  clear hK K
  refine done_ (by kernel_rfl) ?_
  go_wp2
  obtain ⟨v1, hv1⟩ : ∃ v, Value.slice A5 n5 c5 = v := ⟨_, rfl⟩
  rw [hv1] at hR7 hA7 ⊢
  clear hv1
  have hXR : W.heap.size ≠ R := fun e => by have := hRl.out; omega
  have hR8 := Aside0.mk (blk_set hR7b.out j v1)
  rw [rc_set vs m fu hj v1] at hR8
  have hX8 := Aside0.mk (((Fr.set w7 R j v1).blk W.heap.size (blk_lt hX7.out) hXR).trans hX7.out)
  have hV8 := Aside0.mk (Kd.R_set hR7 hR7b.out (by decide) j v1)
  have hF8 : Aside0 (Fr (fun k => k = R ∨ k = m ∨ (vs j).ownBlock = some k) W (w7.setCell ⟨R, j, none⟩ v1)) := ⟨(Fr.of_below (below_step hbT.out hbA.out)).trans ((hF7.weak (fun k hk => .inr (.inr (by rw [E0.out]; exact hk)))).trans ((Fr.set w7 R j v1).weak (fun k hk => .inl hk)))⟩
  have hM8 : Aside0 (MI .i64 3 (w7.setCell ⟨R, j, none⟩ v1) m (slotOf T) T.length) := ⟨HM.out.fr (F := fun k => k = R ∨ (Value.slice A L.length c).ownBlock = some k) ((Fr.of_below (below_step hbT.out hbA.out)).trans ((hF7.weak (fun k hk => .inr hk)).trans ((Fr.set w7 R j v1).weak (fun k hk => .inl hk)))) (fun hk => by
    rcases hk with hk | hk
    · exact hmR.out.2 hk
    · exact (hvb.out m hk).2.2 rfl)⟩
  have hA8 : Aside0 (v1.ownBlock = (vs j).ownBlock ∨ ∃ b, v1.ownBlock = some b ∧ W.heap.size ≤ b) := ⟨by
    rcases hA7 with e | ⟨b, e, hb⟩
    · exact .inl (by rw [e, E0.out])
    · exact .inr ⟨b, e, Nat.le_trans (Nat.le_trans hbT.out.size hbA.out.size) hb⟩⟩
  generalize w7.setCell ⟨R, j, none⟩ v1 = w8 at hR8 hX8 hV8 hF8 hM8 ⊢
  clear hR7 hA7 hR7b hX7 hs hfs hHeld hF7 hbA hV4 hX4 hR4
  obtain ⟨w9, hrun9, hM9, ht9⟩ := (hM8.out.fr (F := fun _ => False) (Fr.drew w8) (fun h => h)).store ek3 (by unfold maxLen; omega) hw (wf_slot hj)
  rw [show slotOf T d.f0 = none from es2.out] at hM9
  have hM9 := Aside0.mk hM9
  have ht9 := Aside0.mk ht9
  have kp8 : Aside0 (∀ w', Fr (fun k => k = m) w8 w' → w'.cell? ⟨R, 64, none⟩ = some (.map (some m)) ∧ w'.cell? ⟨W.heap.size, 0, none⟩ = some (.int .i64 d.f0)) := ⟨fun w' hf =>
    ⟨hf.cell ((blk_cell hR8.out 64).trans (rc_map _ _ _)) (fun e => hmR.out.2 e.symm), hf.cell ((blk_cell hX8.out 0).trans rfl) (fun e => by have := hmR.out.1; have e2 : W.heap.size = m := e; omega)⟩⟩
  go_region_held3 (fun w' => w'.cell? ⟨R, 64, none⟩ = some (.map (some m)) ∧ w'.cell? ⟨W.heap.size, 0, none⟩ = some (.int .i64 d.f0)) (first | exact kp8.out _ (Fr.drew _) | exact kp8.out _ ((Fr.drew _).trans (Fr.of_turned ht9.out))) (fail)
  have hR9 := Aside0.mk (((Fr.of_turned ht9.out).blk R (blk_lt (show w8.drew.heap[R]? = _ from hR8.out)) (fun e => hmR.out.2 e.symm)).trans (show w8.drew.heap[R]? = _ from hR8.out))
  have hF9 := Aside0.mk (hF8.out.trans (((Fr.drew w8).trans (Fr.of_turned ht9.out)).weak (fun k hk => .inr (.inl hk))))
  have hV9 := Aside0.mk (Kd.R_kept (Kd.R_tight2 rfl hV8.out) (S := fun k => k = m) ⟨((Fr.drew w8).trans (Fr.of_turned ht9.out)).size, fun i hi hn => ((Fr.drew w8).trans (Fr.of_turned ht9.out)).blk i hi hn⟩ (fun k hk e => (own_apart hR8.out hM8.out hV8.out k hk.1.symm).2.2 e))
  clear kp8 hrun9 ht9
  have c65 : w9.cell? ⟨R, 65, none⟩ = some (.int .u64 fu) := (blk_cell hR9.out 65).trans (rc_full _ _ _)
  have hwi := Mk.with_ HU.out.1 (j : Int)
  go_wp2_with (go_at_call 16; refine (mask_With.calls fu (j : Int) _ _ hwi).mono ?_; rintro e w10 ⟨rfl, hd10⟩; have hb10 := hd10.below; have hR10 := Aside0.mk (blk_below hR9.out (W10 hb10)); have z1 : w10.cell? ⟨R, 65, none⟩ = some (.int .u64 fu) := (blk_cell hR10.out 65).trans (rc_full _ _ _); have z2 := blk_frozen hR10.out 65)
  go_ret
  have hset := blk_set hR10.out 65 (.int .u64 (Mk.wi fu (j : Int)))
  rw [rc_setFull] at hset
  have hFe := (Fr.of_below (F := fun k => k = R) (W10 hb10)).trans (Fr.set w10 R 65 (.int .u64 (Mk.wi fu (j : Int))))
  obtain ⟨g1, g2, g3, g4, g5⟩ := HA.out
  refine ⟨rfl, ⟨RI.rebuild (fu' := Mk.wi fu (j : Int)) (j := j) (v1 := v1) h3 g1 HR.out HM.out g2 g3 g4 g5 hj (hF9.out.trans (hFe.weak (fun k hk => .inl hk))) hset ?_ (Mk.U_with HU.out.1 _) (hs_put j hj d HU.out.2) ?_ hA8.out (HP.out.put ⟨by omega, by omega⟩ hd2.out hw) (fun i hi hij => ?_)⟩⟩
  · have h1 := hM9.out.fr hFe hmR.out.2
    rw [if_neg (by simp)] at h1
    exact h1.congr (fun x => (slotOf_put x).symm)
  · have h1 := Kd.R_set (Kd.R_below hV9.out (W10 hb10)) hR10.out (by decide) 65 (.int .u64 (Mk.wi fu (j : Int)))
    have e1 : psort (atS (⟨(j : Int), d⟩ :: T) j) = L.take kk ++ d :: L.drop kk := by
      rw [atS_cons, if_pos rfl]
      have h2 := insf_eq (l := L) (by rw [← HL.out]; exact psort_so _) d
      unfold insf bsp at h2
      rw [hkk.out] at h2
      rw [h2]
      exact psort_congr ((HL.out ▸ psort_perm (atS T j)).symm.cons d)
    rw [e1]
    exact Kd.R_mono h1 (fun _ _ => trivial)
  · rw [atS_cons, if_neg (by simp; omega)]
end
end Go.Proofs.Ytedolmjealgeoaa.Rg
