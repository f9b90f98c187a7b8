/- Ring.Drop as a call. Conditions: the ring lies in memory as told. -/
import Derived.Test.YtedolmjealgeoaaPut
set_option linter.unusedVariables false
namespace Go.Proofs.Ytedolmjealgeoaa.Rg
open Go.RowKit Go.Maps Go.Proofs.Ytedolmjealgeoaa.PBase Go.Proofs.Ytedolmjealgeoaa.Cat Go.Proofs.YtedolmjealgeoaaW.PrintWords Go.Proofs.YtedolmjealgeoaaW.PrintLast Go.Proofs.YtedolmjealgeoaaW.PrintMore
section
variable {N : Nat} {F : Nat → Prop} {W : World} {R : Nat} {T : List S114}
theorem drop_nil (W : World) (id : Int) : Calls Try.prog 9 #[.pointer none, .int .i64 id] W fun e w' => e = .returned (.tuple #[.int .i64 0, .bool false]) ∧ Below W.heap.size W w' := by
  have hbx : Below W.heap.size W (W.alloc (.cells #[.int .i64 id] 3)) := below_alloc (Below.refl _ _) _
  go_enter Try.func9, Try.ntmps9
  go_wp2
  go_ret2
  exact ⟨rfl, hbx⟩
set_option maxHeartbeats 4000000 in
set_option maxRecDepth 100000 in
theorem drop_no (h : RI N F W R T) (id : Int) (hd : id ∉ tid T) (hw : (Lit.int .i64 id).wf = true) : Calls Try.prog 9 #[.pointer (some ⟨R, 0, none⟩), .int .i64 id] W fun e w' => e = .returned (.tuple #[.int .i64 0, .bool false]) ∧ Below W.heap.size W w' := by
  obtain ⟨h1, ⟨m, fu, vs, a1, a2, a3, a4, a5, a6, a7, a8⟩, h3, h4⟩ := h
  have es : slotOf T id = none := slotOf_none.2 hd
  have hb : Below W.heap.size W (W.alloc (.cells #[.int .i64 id] 3)) := below_alloc (Below.refl _ _) _
  have hx := blk_new W (.cells #[.int .i64 id] 3)
  have hR1 := blk_below a1 hb
  have c1 : (W.alloc (.cells #[.int .i64 id] 3)).cell? ⟨R, 64, none⟩ = some (.map (some m)) := (blk_cell hR1 64).trans (rc_map _ _ _)
  have x0 : (W.alloc (.cells #[.int .i64 id] 3)).cell? ⟨W.heap.size, 0, none⟩ = some (.int .i64 id) := (blk_cell hx 0).trans rfl
  have hlook := (a2.fr (F := fun _ => False) (Fr.of_below hb) (fun h => h)).look ek3 hw
  rw [es] at hlook
  have HB := Aside0.mk hb
  clear a1 a2 a3 a4 a5 a6 a7 a8 h1 h4 hd hR1 hx es hb
  go_enter Try.func9, Try.ntmps9
  go_upto_region 3 with (fail)
  generalize W.alloc (.cells #[.int .i64 id] 3) = w1 at HB c1 x0 hlook ⊢
  go_quiet (fail)
  go_wp2
  go_ret2
  exact ⟨rfl, by repeat (first | exact HB.out | apply pw_below_drewN | apply below_drew1)⟩
set_option maxHeartbeats 4000000 in
set_option maxRecDepth 100000 in
theorem drop_yes (h : RI N F W R T) (l : S114) (hl : l ∈ T) (j : Nat) (hlj : l.f0 = (j : Int)) (id : Int) (hid : l.f1.f0 = id) (hlen : T.length ≤ 100000) : Calls Try.prog 9 #[.pointer (some ⟨R, 0, none⟩), .int .i64 id] W fun e w' => e = .returned (.tuple #[.int .i64 j, .bool true]) ∧ Aside0 (RGo N F W w' R (dropT T id)) := by
  have hle := h.len_le (j : Int)
  have hj : j < 64 := by have := h.pt.sl l hl; omega
  have hw : (Lit.int .i64 id).wf = true := by rw [← hid]; exact h.pt.wf l hl
  have es : slotOf T id = some (j : Int) := by rw [← hid, ← hlj]; exact slotOf_mem h.pt.nd hl
  obtain ⟨h1, ⟨m, fu, vs, a1, a2, a3, a4, a5, a6, a7, a8⟩, h3, h4⟩ := h
  have es2 := Aside0.mk es
  have hl2 := Aside0.mk (And.intro hl (And.intro hlj hid))
  obtain ⟨A, c, e0, hc, hC⟩ := Kd.R_reads (a5 j hj)
  have hb : Below W.heap.size W (W.alloc (.cells #[.int .i64 id] 3)) := below_alloc (Below.refl _ _) _
  have hx := blk_new W (.cells #[.int .i64 id] 3)
  have HM := Aside0.mk a2
  have HR := Aside0.mk a1
  have HU := Aside0.mk (And.intro a3 a4)
  have HA := Aside0.mk (And.intro h4 (And.intro a5 (And.intro a6 (And.intro a7 a8))))
  have HP := Aside0.mk h1
  have HV := Aside0.mk (a5 j hj)
  rw [e0] at HV
  have hRl : Aside0 (R < W.heap.size) := ⟨(h4 R h3).2⟩
  have hmR : Aside0 (m < W.heap.size ∧ m ≠ R) := ⟨a2.lt, fun e => by obtain ⟨es, ck, hb⟩ := a2.blk; rw [e, a1] at hb; cases hb⟩
  have hvb : Aside0 (∀ b, (vs j).ownBlock = some b → b < W.heap.size ∧ b ≠ R ∧ b ≠ m) := ⟨fun b hb => own_apart a1 a2 (a5 j hj) b hb⟩
  rw [e0] at hvb
  have E0 := Aside0.mk e0
  have hj2 : (j : Int) < 64 := by omega
  have hR1 := blk_below a1 hb
  have c1 : (W.alloc (.cells #[.int .i64 id] 3)).cell? ⟨R, 64, none⟩ = some (.map (some m)) := (blk_cell hR1 64).trans (rc_map _ _ _)
  have x0 : (W.alloc (.cells #[.int .i64 id] 3)).cell? ⟨W.heap.size, 0, none⟩ = some (.int .i64 id) := (blk_cell hx 0).trans rfl
  have hlook := (a2.fr (F := fun _ => False) (Fr.of_below hb) (fun h => h)).look ek3 hw
  rw [es] at hlook
  replace hb := Aside0.mk hb
  replace hx := Aside0.mk hx
  replace hR1 := Aside0.mk hR1
  clear a1 a2 a3 a4 a5 a6 a7 a8 h1 h4 e0 hC hl hlj hid es
  obtain ⟨L, hL⟩ : ∃ L, psort (atS T j) = L := ⟨_, rfl⟩
  rw [hL] at HV hvb E0 hle hc
  have HL := Aside0.mk hL
  clear hL
  go_enter Try.func9, Try.ntmps9
  go_upto_region 3 with (fail)
  generalize W.alloc (.cells #[.int .i64 id] 3) = w1 at hb hx hR1 c1 x0 hlook ⊢
  go_quiet (fail)
  clear hlook c1 x0
  go_upto_region 6 with (fail)
  have hb3 := Aside0.mk (pw_below_drewN hb.out nq)
  have hX3 := Aside0.mk (show (w1.drewN nq).heap[W.heap.size]? = _ from hx.out)
  have hR3 := Aside0.mk (show (w1.drewN nq).heap[R]? = _ from hR1.out)
  generalize w1.drewN nq = w3 at hb3 hX3 hR3 ⊢
  clear hb hx hR1
  refine start_ (n := 14) (S := fun w' => w'.cell? ⟨R, j, none⟩ = some (.slice A L.length c)) (ds := [13]) #[false, false, false, false, false, false, false, false, false, false, false, false, false, false] (by kernel_rfl) rfl rfl ((blk_cell (show w3.drew.heap[R]? = _ from hR3.out) j).trans ((rc_at _ _ _ hj).trans (by rw [E0.out]))) (fun hHeld => ?_)
  have hbT := Aside0.mk (below_drew1 hb3.out)
  have hX4 := Aside0.mk (show w3.drew.heap[W.heap.size]? = _ from hX3.out)
  have hR4 := Aside0.mk (show w3.drew.heap[R]? = _ from hR3.out)
  have hV4 := Aside0.mk (Kd.R_below HV.out hbT.out)
  generalize w3.drew = w5 at hHeld hX4 hR4 hbT hV4 ⊢
  clear hb3 hX3 hR3
  refine pure_ (i := 0) (N := some 21) (v := ?_) (a' := ?_) #[true, false, false, false, false, false, false, false, false, false, false, false, false, false] rfl rfl (by kernel_rfl) (fun _ _ _ h => h) (Or.inl ⟨by rfl, ?_⟩) ?_ ?_
  rotate_left
  · intro w'
    go_simp
    with_reducible rfl
  rotate_left
  · simp only [Act.put, List.setIfInBounds_toArray, List.set_cons_zero, List.set_cons_succ]
    rfl
  refine pure_ (i := 1) (N := some 22) (v := ?_) (a' := ?_) #[true, true, false, false, false, false, false, false, false, false, false, false, false, false] rfl rfl (by kernel_rfl) (fun _ _ _ h => h) (Or.inl ⟨by rfl, ?_⟩) ?_ ?_
  rotate_left
  · intro w'
    go_simp
    with_reducible rfl
  rotate_left
  · simp only [Act.put, List.setIfInBounds_toArray, List.set_cons_zero, List.set_cons_succ]
    rfl
  refine pure_ (i := 2) (N := some 23) (v := ?_) (a' := ?_) #[true, true, true, false, false, false, false, false, false, false, false, false, false, false] rfl rfl (by kernel_rfl) (fun _ _ _ h => h) (Or.inl ⟨by rfl, ?_⟩) ?_ ?_
  rotate_left
  · intro w'
    go_simp
    with_reducible rfl
  rotate_left
  · simp only [Act.put, List.setIfInBounds_toArray, List.set_cons_zero, List.set_cons_succ]
    rfl
  refine pure_ (i := 3) (N := some 24) (v := ?_) (a' := ?_) #[true, true, true, true, false, false, false, false, false, false, false, false, false, false] rfl rfl (by kernel_rfl) (fun _ _ _ h => h) (Or.inl ⟨by rfl, ?_⟩) ?_ ?_
  rotate_left
  · intro w'
    go_simp
    with_reducible rfl
  rotate_left
  · simp only [Act.put, List.setIfInBounds_toArray, List.set_cons_zero, List.set_cons_succ]
    rfl
  refine pure_ (i := 4) (N := some 25) (v := ?_) (a' := ?_) #[true, true, true, true, true, false, false, false, false, false, false, false, false, false] rfl rfl (by kernel_rfl) (fun _ _ _ h => h) (Or.inl ⟨by rfl, ?_⟩) ?_ ?_
  rotate_left
  · intro w'
    go_simp
    with_reducible rfl
  rotate_left
  · simp only [Act.put, List.setIfInBounds_toArray, List.set_cons_zero, List.set_cons_succ]
    rfl
  refine pure_ (i := 5) (N := some 26) (v := ?_) (a' := ?_) #[true, true, true, true, true, true, false, false, false, false, false, false, false, false] rfl rfl (by kernel_rfl) (fun _ _ _ h => h) (Or.inl ⟨by rfl, ?_⟩) ?_ ?_
  rotate_left
  · intro w'
    go_simp
    with_reducible rfl
  rotate_left
  · simp only [Act.put, List.setIfInBounds_toArray, List.set_cons_zero, List.set_cons_succ]
    rfl
  refine pure_ (i := 6) (N := some 27) (v := ?_) (a' := ?_) #[true, true, true, true, true, true, true, false, false, false, false, false, false, false] rfl rfl (by kernel_rfl) (fun _ _ _ h => h) (Or.inl ⟨by rfl, ?_⟩) ?_ ?_
  rotate_left
  · intro w'
    go_simp
    with_reducible rfl
  rotate_left
  · simp only [Act.put, List.setIfInBounds_toArray, List.set_cons_zero, List.set_cons_succ]
    rfl
  refine take_ (i := 7) (N := some 28) (v := ?_) (a' := ?_) #[true, true, true, true, true, true, true, true, false, false, false, false, false, false] rfl rfl (by kernel_rfl) (fun _ _ _ h => h) (Or.inl ⟨by rfl, ?_⟩) hHeld ?_ ?_
  rotate_left
  · intro w' s0
    go_simp
    with_reducible rfl
  rotate_left
  · simp only [Act.put, List.setIfInBounds_toArray, List.set_cons_zero, List.set_cons_succ]
    rfl
  refine pure_ (i := 8) (N := some 29) (v := ?_) (a' := ?_) #[true, true, true, true, true, true, true, true, true, false, false, false, false, false] rfl rfl (by kernel_rfl) (fun _ _ _ h => h) (Or.inl ⟨by rfl, ?_⟩) ?_ ?_
  rotate_left
  · intro w'
    go_simp
    with_reducible rfl
  rotate_left
  · simp only [Act.put, List.setIfInBounds_toArray, List.set_cons_zero, List.set_cons_succ]
    rfl
  refine pure_ (i := 10) (N := some 31) (v := ?_) (a' := ?_) #[true, true, true, true, true, true, true, true, true, false, true, false, false, false] rfl rfl (by kernel_rfl) (fun _ _ _ h => h) (Or.inl ⟨by rfl, ?_⟩) ?_ ?_
  rotate_left
  · intro w'
    go_simp
    with_reducible rfl
  rotate_left
  · simp only [Act.put, List.setIfInBounds_toArray, List.set_cons_zero, List.set_cons_succ]
    rfl
  refine pure_ (i := 11) (N := some 32) (v := ?_) (a' := ?_) #[true, true, true, true, true, true, true, true, true, false, true, true, false, false] rfl rfl (by kernel_rfl) (fun _ _ _ h => h) (Or.inl ⟨by rfl, ?_⟩) ?_ ?_
  rotate_left
  · intro w'
    go_simp
    with_reducible rfl
  rotate_left
  · simp only [Act.put, List.setIfInBounds_toArray, List.set_cons_zero, List.set_cons_succ]
    rfl
  refine one_ (i := 9) (N := some 30) #[true, true, true, true, true, true, true, true, true, true, true, true, false, false] rfl rfl (by kernel_rfl) (by decide) (fun K hK => ?_)
  refine goes_ Try.func18 (by kernel_rfl) rfl #[.slice A L.length c, .func (.func 19) #[] #[.pointer (some ⟨W.heap.size, 0, none⟩)]] (by rfl) rfl rfl (by simp only [List.map_toArray, List.map_cons, List.map_nil]; rfl) ?_
  have hT := delete_calls hV4.out id W.heap.size hX4.out (by omega)
  refine hT.mono ?_
  clear hT
  rintro e w7 ⟨v1, rfl, hR7, hF7, hA7⟩
  refine ⟨_, rfl, ?_⟩
  refine hK.out _ _ (hF7.cell hHeld (fun e => (hvb.out R e).2.1 rfl)) (fun hHeld => ?_)
  clear hK K
  refine norm_ (a' := ?_) ?_ ?_
  rotate_left
  · show Act.put _ (some 30) _ = _
    simp only [Act.put, List.setIfInBounds_toArray, List.set_cons_zero, List.set_cons_succ]
    rfl
  refine pure_ (i := 12) (N := some 33) (v := ?_) (a' := ?_) #[true, true, true, true, true, true, true, true, true, true, true, true, true, false] rfl rfl (by kernel_rfl) (fun _ _ _ h => h) (Or.inl ⟨by rfl, ?_⟩) ?_ ?_
  rotate_left
  · intro w'
    go_simp
    with_reducible rfl
  rotate_left
  · simp only [Act.put, List.setIfInBounds_toArray, List.set_cons_zero, List.set_cons_succ]
    rfl
  refine last_ (i := 13) (N := none) #[true, true, true, true, true, true, true, true, true, true, true, true, true, true] rfl rfl (by kernel_rfl) (by decide) (fun K hK => ?_)
  obtain ⟨A5, c5, rfl⟩ := Kd.R_slice hR7
  obtain ⟨n5, hn5⟩ : ∃ n, (L.filter (fun y => !(y.f0 == id))).length = n := ⟨_, rfl⟩
  rw [hn5] at hR7 hA7 ⊢
  have hn5 := Aside0.mk hn5
  have hR7b := Aside0.mk ((hF7.blk R (blk_lt hR4.out) (fun e => (hvb.out R e).2.1 rfl)).trans hR4.out)
  have hX7 := Aside0.mk ((hF7.blk W.heap.size (blk_lt hX4.out) (fun e => Nat.lt_irrefl _ (hvb.out _ e).1)).trans hX4.out)
  have hs := hHeld
  have hfs := blk_frozen hR7b.out j
  refine skip_ (w1 := ?_) (by rfl) rfl ?_ ?_
  rotate_left
  · go_simp
    rfl
  refine hK.out _ _ ?_
  clear hK K
  refine done_ (by kernel_rfl) ?_
  go_wp2
  have hXR : W.heap.size ≠ R := fun e => by have := hRl.out; omega
  have hR8 := Aside0.mk (blk_set hR7b.out j (.slice A5 n5 c5))
  rw [rc_set vs m fu hj (.slice A5 n5 c5)] at hR8
  have hX8 := Aside0.mk (((Fr.set w7 R j (.slice A5 n5 c5)).blk W.heap.size (blk_lt hX7.out) hXR).trans hX7.out)
  have hV8 := Aside0.mk (Kd.R_set hR7 hR7b.out (by decide) j (.slice A5 n5 c5))
  have hF8 : Aside0 (Fr (fun k => k = R ∨ k = m ∨ (vs j).ownBlock = some k) W (w7.setCell ⟨R, j, none⟩ (.slice A5 n5 c5))) := ⟨(Fr.of_below hbT.out).trans ((hF7.weak (fun k hk => .inr (.inr (by rw [E0.out]; exact hk)))).trans ((Fr.set w7 R j (.slice A5 n5 c5)).weak (fun k hk => .inl hk)))⟩
  have hM8 : Aside0 (MI .i64 3 (w7.setCell ⟨R, j, none⟩ (.slice A5 n5 c5)) m (slotOf T) T.length) := ⟨HM.out.fr (F := fun k => k = R ∨ (Value.slice A L.length c).ownBlock = some k) ((Fr.of_below hbT.out).trans ((hF7.weak (fun k hk => .inr hk)).trans ((Fr.set w7 R j (.slice A5 n5 c5)).weak (fun k hk => .inl hk)))) (fun hk => by
    rcases hk with hk | hk
    · exact hmR.out.2 hk
    · exact (hvb.out m hk).2.2 rfl)⟩
  have hA8 : Aside0 ((Value.slice A5 n5 c5).ownBlock = (vs j).ownBlock ∨ ∃ b, (Value.slice A5 n5 c5).ownBlock = some b ∧ W.heap.size ≤ b) := ⟨.inl (by rw [hA7, E0.out])⟩
  generalize w7.setCell ⟨R, j, none⟩ (.slice A5 n5 c5) = w8 at hR8 hX8 hV8 hF8 hM8 ⊢
  clear hR7 hA7 hR7b hX7 hs hfs hHeld hF7 hV4 hX4 hR4
  obtain ⟨w9, hrun9, hM9, ht9⟩ := (hM8.out.fr (F := fun _ => False) (Fr.drew w8) (fun h => h)).drop ek3 hw 0
  rw [es2.out, if_pos (show (some (j : Int)).isSome = true from rfl)] at hM9
  have hM9 := Aside0.mk hM9
  have ht9 := Aside0.mk ht9
  have kp8 : Aside0 (∀ w', Fr (fun k => k = m) w8 w' → w'.cell? ⟨R, 64, none⟩ = some (.map (some m)) ∧ w'.cell? ⟨W.heap.size, 0, none⟩ = some (.int .i64 id)) := ⟨fun w' hf =>
    ⟨hf.cell ((blk_cell hR8.out 64).trans (rc_map _ _ _)) (fun e => hmR.out.2 e.symm), hf.cell ((blk_cell hX8.out 0).trans rfl) (fun e => by have := hmR.out.1; have e2 : W.heap.size = m := e; omega)⟩⟩
  go_region_held3 (fun w' => w'.cell? ⟨R, 64, none⟩ = some (.map (some m)) ∧ w'.cell? ⟨W.heap.size, 0, none⟩ = some (.int .i64 id)) (first | exact kp8.out _ (Fr.drew _) | exact kp8.out _ ((Fr.drew _).trans (Fr.of_turned ht9.out))) (fail)
  have hR9 := Aside0.mk (((Fr.of_turned ht9.out).blk R (blk_lt (show w8.drew.heap[R]? = _ from hR8.out)) (fun e => hmR.out.2 e.symm)).trans (show w8.drew.heap[R]? = _ from hR8.out))
  have hF9 := Aside0.mk (hF8.out.trans (((Fr.drew w8).trans (Fr.of_turned ht9.out)).weak (fun k hk => .inr (.inl hk))))
  have hV9 := Aside0.mk (Kd.R_kept (Kd.R_tight2 rfl hV8.out) (S := fun k => k = m) ⟨((Fr.drew w8).trans (Fr.of_turned ht9.out)).size, fun i hi hn => ((Fr.drew w8).trans (Fr.of_turned ht9.out)).blk i hi hn⟩ (fun k hk e => (own_apart hR8.out hM8.out hV8.out k hk.1.symm).2.2 e))
  clear kp8 hrun9 ht9 hV8 hF8 hM8 hR8 hX8
  have cj : w9.cell? ⟨R, j, none⟩ = some (.slice A5 n5 c5) := (blk_cell hR9.out j).trans ((rc_at _ _ _ hj).trans (by rw [vput_same]))
  have hsame : Aside0 (psort (atS (dropT T id) j) = L.filter (fun y => !(y.f0 == id))) := ⟨by rw [atS_drop, ← rm_psort, HL.out]; rfl⟩
  have hn5b : Aside0 (decide (atS (dropT T id) (j : Int) ≠ []) = decide (n5 ≠ 0)) := ⟨by
    rw [decide_eq_decide, ← hn5.out, ← hsame.out, psort_len]
    exact ⟨fun h1 h2 => h1 (List.eq_nil_of_length_eq_zero h2), fun h1 h2 => h1 (by rw [h2]; rfl)⟩⟩
  have hoth : Aside0 (∀ i : Nat, i ≠ j → atS (dropT T id) i = atS T i) := ⟨fun i hi => by
    rw [atS_drop, rm_none]
    obtain ⟨g1, g2, g3⟩ := hl2.out
    rw [← g3]
    exact atS_other HP.out g1 (by rw [g2]; omega)⟩
  have hmid : Aside0 (∀ w', MI .i64 3 w' m (upd (slotOf T) id none) (T.length - 1) → MI .i64 3 w' m (slotOf (dropT T id)) (dropT T id).length) := ⟨fun w' hM => by
    obtain ⟨g1, g2, g3⟩ := hl2.out
    have e1 := drop_len HP.out g1
    rw [g3] at e1
    rw [e1]
    exact hM.congr (fun x => (slotOf_drop HP.out id x).symm)⟩
  by_cases hn0 : n5 = 0
  · subst hn0
    have c65 : w9.cell? ⟨R, 65, none⟩ = some (.int .u64 fu) := (blk_cell hR9.out 65).trans (rc_full _ _ _)
    have hwo := Mk.without HU.out.1 (j : Int)
    go_wp2_with (go_at_call 20; refine (mask_Without.calls fu (j : Int) _ _ hwo).mono ?_; rintro e wB ⟨rfl, hdB⟩; have hbB := hdB.below; have hRB := Aside0.mk (blk_below hR9.out hbB); have z1 : wB.cell? ⟨R, 65, none⟩ = some (.int .u64 fu) := (blk_cell hRB.out 65).trans (rc_full _ _ _); have z2 := blk_frozen hRB.out 65)
    go_ret2
    have hset := blk_set hRB.out 65 (.int .u64 (Mk.wo fu (j : Int)))
    rw [rc_setFull] at hset
    have hFe := (Fr.of_below (F := fun k => k = R) hbB).trans (Fr.set wB R 65 (.int .u64 (Mk.wo fu (j : Int))))
    obtain ⟨g1, g2, g3, g4, g5⟩ := HA.out
    refine ⟨rfl, ⟨RI.rebuild (fu' := Mk.wo fu (j : Int)) (j := j) (v1 := .slice A5 0 c5) h3 g1 HR.out HM.out g2 g3 g4 g5 hj (hF9.out.trans (hFe.weak (fun k hk => .inl hk))) hset (hmid.out _ (hM9.out.fr hFe hmR.out.2)) (Mk.U_without HU.out.1 _) (fun k hk => ?_) ?_ hA8.out (HP.out.drop id) (fun i hi hij => by rw [hoth.out i hij])⟩⟩
    · rw [Mk.hs_without, HU.out.2 k hk]
      by_cases e : k = j
      · subst e
        rw [hn5b.out]
        simp
      · rw [hoth.out k e]
        have : ¬ (k : Int) = (j : Int) := by omega
        simp [this]
    · rw [hsame.out]
      exact Kd.R_mono (Kd.R_set (Kd.R_below hV9.out hbB) hRB.out (by decide) 65 (.int .u64 (Mk.wo fu (j : Int)))) (fun _ _ => trivial)
  · have hn1 : ¬ (n5 : Int) = 0 := by omega
    go_wp2
    go_ret2
    obtain ⟨g1, g2, g3, g4, g5⟩ := HA.out
    refine ⟨rfl, ⟨RI.rebuild (fu' := fu) (j := j) (v1 := .slice A5 n5 c5) h3 g1 HR.out HM.out g2 g3 g4 g5 hj hF9.out hR9.out (hmid.out _ hM9.out) HU.out.1 (fun k hk => ?_) ?_ hA8.out (HP.out.drop id) (fun i hi hij => by rw [hoth.out i hij])⟩⟩
    · by_cases e : k = j
      · subst e
        rw [hn5b.out, HU.out.2 k hk, decide_eq_true hn0, decide_eq_true]
        intro e2
        obtain ⟨q1, q2, q3⟩ := hl2.out
        have : l.f1 ∈ atS T (k : Int) := List.mem_map.2 ⟨l, List.mem_filter.2 ⟨q1, by simpa using q2⟩, rfl⟩
        rw [e2] at this
        exact absurd this List.not_mem_nil
      · rw [hoth.out k e, HU.out.2 k hk]
    · rw [hsame.out]
      exact Kd.R_mono hV9.out (fun _ _ => trivial)
end
end Go.Proofs.Ytedolmjealgeoaa.Rg
