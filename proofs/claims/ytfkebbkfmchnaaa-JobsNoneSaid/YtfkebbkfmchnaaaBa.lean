/- jobs.Book's Add, Drop, Rested as calls. Conditions: the book lies in memory as told. -/
import Derived.Test.YtfkebbkfmchnaaaBf
set_option linter.unusedVariables false
namespace Go.Proofs.Ytfkebbkfmchnaaa.Bk
open Go.RowKit Go.Maps Go.Proofs.Ytfkebbkfmchnaaa.PBase Go.Proofs.Ytfkebbkfmchnaaa.Cat Go.Proofs.Ytfkebbkfmchnaaa.Heap Go.Proofs.Ytfkebbkfmchnaaa.Ln Go.Proofs.Ytfkebbkfmchnaaa.Lst Go.Proofs.Ytfkebbkfmchnaaa.Mq Go.Proofs.YtfkebbkfmchnaaaW.PrintWords Go.Proofs.YtfkebbkfmchnaaaW.PrintLast Go.Proofs.YtfkebbkfmchnaaaW.PrintMore
section
variable {N : Nat} {X : Nat → Prop} {W W' : World} {G : Nat} {b : Book}
/-! ### Add -/
set_option maxHeartbeats 4000000 in
set_option maxRecDepth 100000 in
theorem add_arg (W : World) (G : Nat) (id cl : Int) (hc : ¬ (0 ≤ cl ∧ cl < 8)) : Calls Try.prog 9 #[ptr G, .int .i64 id, .int .i64 cl] W fun e w' => e = .returned (.int .i64 1) ∧ Below W.heap.size W w' := by
  by_cases h1 : cl < 0
  · clear hc
    go_enter Try.func9, Try.ntmps9
    go_wp2
    go_ret
    exact ⟨rfl, Below.refl _ _⟩
  · have h2 : 8 ≤ cl := by omega
    clear hc
    go_enter Try.func9, Try.ntmps9
    go_wp2
    go_ret
    exact ⟨rfl, Below.refl _ _⟩
set_option maxHeartbeats 4000000 in
set_option maxRecDepth 100000 in
theorem add_twice (h : BI N X W G b) (id cl : Int) (hi : (Lit.int .i64 id).wf = true) (hc : 0 ≤ cl ∧ cl < 8) (hin : id ∈ b.Js.map jid) : Calls Try.prog 9 #[ptr G, .int .i64 id, .int .i64 cl] W fun e w' => e = .returned (.int .i64 8) ∧ Below W.heap.size W w' := by
  obtain ⟨⟨B, T, mj, ma, mo, h1⟩, h2⟩ := h
  have c4 := h1.c4
  obtain ⟨x, hx⟩ : ∃ x, lk jid b.Js id = some x := Option.isSome_iff_exists.1 (lk_isSome.2 hin)
  have hlook := h1.j.look ekJc hi 0
  rw [hx] at hlook
  replace hlook : (Instr.lookup 70 (.map (some mj)) (.int .i64 id) true).run Try.prog W = .ok (.tuple #[.agg #[.int .i64 x.cls, .int .i64 x.st, .int .i64 x.us], .bool true]) W := hlook
  have k1 : ¬ cl < 0 := by omega
  have k2 : ¬ 8 ≤ cl := by omega
  clear h1 h2 hin hx hc
  go_enter Try.func9, Try.ntmps9
  go_wp2
  go_ret
  exact ⟨rfl, below_alloc (Below.refl _ _) _⟩
set_option maxHeartbeats 4000000 in
set_option maxRecDepth 100000 in
theorem add_full (h : BI N X W G b) (id cl : Int) (hi : (Lit.int .i64 id).wf = true) (hc : 0 ≤ cl ∧ cl < 8) (hin : id ∉ b.Js.map jid) (hl : b.rm ≤ (b.Js.length : Int)) : Calls Try.prog 9 #[ptr G, .int .i64 id, .int .i64 cl] W fun e w' => e = .returned (.int .i64 10) ∧ Below W.heap.size W w' := by
  obtain ⟨⟨B, T, mj, ma, mo, h1⟩, h2⟩ := h
  have c4 := h1.c4
  have hlook := h1.j.look ekJc hi 0
  rw [lk_none.2 hin] at hlook
  replace hlook : (Instr.lookup 70 (.map (some mj)) (.int .i64 id) true).run Try.prog W = .ok (.tuple #[.agg #[.int .i64 0, .int .i64 0, .int .i64 0], .bool false]) W := hlook
  have H1 := Aside0.mk h1
  have k1 : ¬ cl < 0 := by omega
  have k2 : ¬ 8 ≤ cl := by omega
  have H1 := Aside0.mk h1
  clear h1 h2 hin hc
  go_enter Try.func9, Try.ntmps9
  go_upto_region 6 with (fail)
  generalize hw2 : (W.alloc (.cells #[.int .i64 0, .int .i64 0, .int .i64 0] 74)) = w2
  have hbA : Below W.heap.size W w2 := by rw [← hw2]; exact below_alloc (Below.refl _ _) _
  have H2 := H1.out.step hbA
  have hln : ∀ a, (Builtin.len_ #[70] 3 #[.map (some mj)]).run Try.prog (w2.drewN a) = .ok (.int .i64 (b.Js.length : Int)) (w2.drewN a) := fun a => (H2.step (pw_below_drewN (Below.refl _ _) a)).j.len ekJc 3
  have e4 := H2.c4
  have e1 := H2.c1
  generalize (b.Js.length : Int) = n at hl hln
  generalize b.rm = m at hl e1
  clear H2 H1 hlook c4 hw2
  go_quiet (fail)
  go_wp2
  go_ret
  exact ⟨rfl, below_step hbA (pw_below_drewN (Below.refl _ _) nq)⟩
set_option maxHeartbeats 4000000 in
set_option maxRecDepth 100000 in
theorem add_ok (h : BI N X W G b) (id cl : Int) (hi : (Lit.int .i64 id).wf = true) (hE : addE b id cl = 0) : Calls Try.prog 9 #[ptr G, .int .i64 id, .int .i64 cl] W fun e w' => e = .returned (.int .i64 0) ∧ Aside0 (BI N X w' G (addB b id cl) ∧ Fr (KX N X) W w') := by
  obtain ⟨⟨B, T, mj, ma, mo, h1⟩, hI⟩ := h
  obtain ⟨hc, hin, hlt⟩ := addE_ok hE
  have c4 := h1.c4
  have hlook := h1.j.look ekJc hi 0
  rw [lk_none.2 hin] at hlook
  replace hlook : (Instr.lookup 70 (.map (some mj)) (.int .i64 id) true).run Try.prog W = .ok (.tuple #[.agg #[.int .i64 0, .int .i64 0, .int .i64 0], .bool false]) W := hlook
  have k1 : ¬ cl < 0 := by omega
  have k2 : ¬ 8 ≤ cl := by omega
  have H1 := Aside0.mk h1
  have HC := Aside0.mk (And.intro hE (And.intro hI (And.intro hin hlt)))
  clear h1 hE hI hin hlt hc
  go_enter Try.func9, Try.ntmps9
  go_upto_region 6 with (fail)
  obtain ⟨hE, hI, hin, hlt⟩ := HC.out
  generalize hw2 : (W.alloc (.cells #[.int .i64 0, .int .i64 0, .int .i64 0] 74)) = w2
  have hbA : Below W.heap.size W w2 := by rw [← hw2]; exact below_alloc (Below.refl _ _) _
  have H2 := H1.out.step hbA
  have hln : ∀ a, (Builtin.len_ #[70] 3 #[.map (some mj)]).run Try.prog (w2.drewN a) = .ok (.int .i64 (b.Js.length : Int)) (w2.drewN a) := fun a => (H2.step (pw_below_drewN (Below.refl _ _) a)).j.len ekJc 3
  have e4 := H2.c4
  have e1 := H2.c1
  have hnl : ¬ b.rm ≤ (b.Js.length : Int) := by omega
  have H2 := Aside0.mk H2
  have hbA := Aside0.mk hbA
  generalize (b.Js.length : Int) = n at hnl hln
  clear hw2 hlook c4 H1 hE hI hin hlt
  go_quiet (fail)
  clear hln e4 e1
  have hbB : Below w2.heap.size w2 (w2.drewN nq) := pw_below_drewN (Below.refl _ _) nq
  generalize w2.drewN nq = w2' at hbB
  obtain ⟨hE, hI, hin, hlt⟩ := HC.out
  have H2' := H2.out.step hbB
  have hbD := below_step hbA.out hbB
  have e4 := H2'.c4
  have hrm := hI.rm
  obtain ⟨w3, hrun3, hM3, ht3⟩ := H2'.j.store ekJc (by unfold maxLen; omega) ⟨cl, 1, 0⟩ hi
  replace hrun3 : (Instr.mapUpdate 70 (.map (some mj)) (.int .i64 id) (.agg #[.int .i64 cl, .int .i64 1, .int .i64 0])).run Try.prog w2' = .ok () w3 := hrun3
  obtain ⟨H3, hF3⟩ := H2'.open_ hM3 (Fr.of_turned ht3)
  have c30 := H3.c0
  have hl := hI.len
  obtain ⟨p1, p2⟩ := hI.add_put hE
  have hput := Aside0.mk (put_I H3.q id cl (by omega) 0 _ p1 p2)
  have H3 := Aside0.mk H3
  have HF := Aside0.mk (And.intro hF3 hbD)
  have hA := Aside0.mk (hI.add hE hi)
  have HIN := Aside0.mk (And.intro hI hin)
  clear HC H2' hin hE hlt hI hbB hbD hM3 ht3 hF3 hl p1 p2 hrm
  go_wp2_with (go_at_call 35; refine hput.out.mono ?_; rintro e w4 ⟨rfl, hq4, hf4⟩)
  go_ret
  obtain ⟨q1, q2⟩ := H3.out.queue hq4 hf4
  refine ⟨rfl, ⟨⟨⟨⟨B, T, mj, ma, mo, q1.congr (fun x => ?_) ?_ rfl⟩, hA.out⟩, (Fr.of_below HF.out.2).trans (HF.out.1.trans q2)⟩⟩⟩
  · show upd (fun x => (lk jid b.Js x).map jc) id _ x = (lk jid (b.Js ++ [_]) x).map jc
    rw [lk_snoc (κ := jid) b.Js ⟨id, cl, 1, 0⟩ x HIN.out.2]
    unfold upd
    by_cases e : x = id
    · rw [if_pos e, if_pos (show x = jid ⟨id, cl, 1, 0⟩ from e)]; rfl
    · rw [if_neg e, if_neg (show ¬ x = jid ⟨id, cl, 1, 0⟩ from e)]
  · show _ = (b.Js ++ [_]).length
    rw [lk_none.2 HIN.out.2]
    simp
theorem addE_cases (b : Book) (id cl : Int) : addE b id cl = 1 ∧ ¬ (0 ≤ cl ∧ cl < 8) ∨ addE b id cl = 8 ∧ (0 ≤ cl ∧ cl < 8) ∧ id ∈ b.Js.map jid ∨ addE b id cl = 10 ∧ (0 ≤ cl ∧ cl < 8) ∧ id ∉ b.Js.map jid ∧ b.rm ≤ (b.Js.length : Int) ∨ addE b id cl = 0 := by
  unfold addE
  by_cases h1 : 0 ≤ cl ∧ cl < 8
  · rw [if_neg (fun h => h h1)]
    by_cases h2 : id ∈ b.Js.map jid
    · rw [if_pos h2]; exact .inr (.inl ⟨rfl, h1, h2⟩)
    · rw [if_neg h2]
      by_cases h3 : b.rm ≤ (b.Js.length : Int)
      · rw [if_pos h3]; exact .inr (.inr (.inl ⟨rfl, h1, h2, h3⟩))
      · rw [if_neg h3]; exact .inr (.inr (.inr rfl))
  · rw [if_pos h1]; exact .inl ⟨rfl, h1⟩
def addT (b : Book) (id cl : Int) : Book := if addE b id cl = 0 then addB b id cl else b
theorem BI.go (h : BI N X W G b) (hb : Below W.heap.size W W') : BI N X W' G b ∧ Fr (KX N X) W W' := ⟨h.step hb, Fr.of_below hb⟩
theorem add_B (h : BI N X W G b) (id cl : Int) (hi : (Lit.int .i64 id).wf = true) (e1 : Int) (hE : addE b id cl = e1) (b2 : Book) (hb2 : addT b id cl = b2) : Calls Try.prog 9 #[ptr G, .int .i64 id, .int .i64 cl] W fun e w' => e = .returned (.int .i64 e1) ∧ Aside0 (BI N X w' G b2 ∧ Fr (KX N X) W w') := by
  subst hb2
  unfold addT
  rcases addE_cases b id cl with ⟨h0, h1⟩ | ⟨h0, h1, h2⟩ | ⟨h0, h1, h2, h3⟩ | h0
  · obtain rfl := h0.symm.trans hE
    rw [h0, if_neg (by decide)]
    refine (add_arg W G id cl h1).mono ?_
    rintro e w' ⟨rfl, hb⟩
    exact ⟨rfl, ⟨h.go hb⟩⟩
  · obtain rfl := h0.symm.trans hE
    rw [h0, if_neg (by decide)]
    refine (add_twice h id cl hi h1 h2).mono ?_
    rintro e w' ⟨rfl, hb⟩
    exact ⟨rfl, ⟨h.go hb⟩⟩
  · obtain rfl := h0.symm.trans hE
    rw [h0, if_neg (by decide)]
    refine (add_full h id cl hi h1 h2 h3).mono ?_
    rintro e w' ⟨rfl, hb⟩
    exact ⟨rfl, ⟨h.go hb⟩⟩
  · obtain rfl := h0.symm.trans hE
    rw [if_pos h0]
    exact add_ok h id cl hi h0
/-! ### Rested -/
theorem fld0 (a b c : Int) (w : World) : (Instr.field 74 (.agg #[.int .i64 a, .int .i64 b, .int .i64 c]) 0).run Try.prog w = .ok (.int .i64 a) w := by
  simp [Instr.field, run_underlying Try.underlying74, part, asAgg, go_sem]
theorem fld1 (a b c : Int) (w : World) : (Instr.field 74 (.agg #[.int .i64 a, .int .i64 b, .int .i64 c]) 1).run Try.prog w = .ok (.agg #[.int .i64 b, .int .i64 c]) w := by
  simp [Instr.field, run_underlying Try.underlying74, part, asAgg, go_sem]
theorem fld2 (b c : Int) (w : World) : (Instr.field 44 (.agg #[.int .i64 b, .int .i64 c]) 1).run Try.prog w = .ok (.int .i64 c) w := by
  simp [Instr.field, run_underlying Try.underlying44, part, asAgg, go_sem]
set_option maxHeartbeats 4000000 in
set_option maxRecDepth 100000 in
theorem rested_no (h : BI N X W G b) (id : Int) (hi : (Lit.int .i64 id).wf = true) (hn : ∀ j, lk jid b.Js id = some j → j.st ≠ 3) : Calls Try.prog 15 #[ptr G, .int .i64 id] W fun e w' => e = .returned (.bool false) ∧ Below W.heap.size W w' := by
  obtain ⟨⟨B, T, mj, ma, mo, h1⟩, hI⟩ := h
  have hst : Calls Try.prog 37 #[ptr G, .int .i64 id, .int .i64 4] W fun e w' => e = .returned (.tuple #[.agg #[.int .i64 0, .int .i64 0], .bool false]) ∧ Below W.heap.size W w' := by
    cases hx : lk jid b.Js id with
    | none => exact step_none h1 id 4 hi (by rw [hx]; rfl)
    | some j => exact step_bad h1 id 4 hi (jc j) (by rw [hx]; rfl) (S_norest (hn j hx))
  clear h1 hI hn
  go_enter Try.func15, Try.ntmps15
  go_wp2_with (go_at_call 37; refine hst.mono ?_; rintro e w4 ⟨rfl, hb4⟩)
  go_ret
  exact ⟨rfl, below_alloc hb4 _⟩
set_option maxHeartbeats 4000000 in
set_option maxRecDepth 100000 in
theorem rested_yes (h : BI N X W G b) (j : Jb) (hj : j ∈ b.Js) (hs : j.st = 3) : Calls Try.prog 15 #[ptr G, .int .i64 j.id] W fun e w' => e = .returned (.bool true) ∧ Aside0 (BI N X w' G (wakeB b j) ∧ Fr (KX N X) W w') := by
  obtain ⟨⟨B, T, mj, ma, mo, h1⟩, hI⟩ := h
  have hi := hI.wf j hj
  have hok := (hI.ok j hj).2
  have htr := hI.tr
  have hk : lk jid b.Js j.id = some j := lk_get hI.nd hj
  have hle := hI.le
  have hrm := hI.rm
  have hst := Aside0.mk (step_go h1 j.id 4 hi (jc j) (by show (lk jid b.Js j.id).map jc = _; rw [hk]; rfl) 1 j.us (by rw [show (jc j).st = 3 from hs]; exact S_rest htr (by show 1 ≤ j.us ∧ j.us ≤ _; omega)) (by decide) (by decide) (by unfold maxLen; omega))
  obtain ⟨p1, p2⟩ := hI.wake_put hj hs
  have hl := hI.len
  have HA := Aside0.mk (hI.wake hj hs)
  have H1 := Aside0.mk h1
  have HK := Aside0.mk hk
  clear hok htr hk h1
  go_enter Try.func15, Try.ntmps15
  go_upto_region 6 with (go_at_call 37; refine hst.out.mono ?_; rintro e w4 ⟨rfl, hg4⟩)
  generalize hw5 : (w4.alloc (.cells #[.int .i64 1, .int .i64 j.us] 44)) = w5
  have hb5 : Below w4.heap.size w4 w5 := by rw [← hw5]; exact below_alloc (Below.refl _ _) _
  have hD := below_drew1 hb5
  obtain ⟨H4, hF4⟩ := H1.out.open_ hg4.out.1 hg4.out.2
  have H5 := H4.step hD
  have e0 := H5.c0
  have e4 := H5.c4
  have hlook : (Instr.lookup 70 (.map (some mj)) (.int .i64 j.id) false).run Try.prog w5.drew = .ok (.agg #[.int .i64 j.cls, .int .i64 1, .int .i64 j.us]) w5.drew := by
    have h := H5.j.look1 ekJc hi 0
    rw [upd_same] at h
    exact h
  have hput := Aside0.mk (put_I H5.q j.id j.cls (by omega) 0 _ p1 p2)
  have H5 := Aside0.mk H5
  have HF := Aside0.mk (hF4.trans (Fr.of_below hD))
  have hfl := fld0 j.cls 1 j.us
  clear hw5 hg4 hb5 hD H4 hF4 hle hrm hl p1 p2 hs
  go_region_held3 (fun w' => w'.cell? ⟨G, 0, none⟩ = some (ptr B) ∧ w'.cell? ⟨G, 4, none⟩ = some (.map (some mj))) (first | exact ⟨e0, e4⟩ | exact ⟨(H5.out.queue hq6 hf6).1.c0, (H5.out.queue hq6 hf6).1.c4⟩) (first | (go_at_call 35; refine hput.out.mono ?_; rintro e w6 ⟨rfl, hq6, hf6⟩))
  go_wp2
  go_ret
  obtain ⟨q1, q2⟩ := H5.out.queue hq6 hf6
  refine ⟨rfl, ⟨⟨⟨⟨B, T, mj, ma, mo, q1.congr (fun x => ?_) ?_ rfl⟩, HA.out⟩, HF.out.trans q2⟩⟩⟩
  · show upd (fun x => (lk jid b.Js x).map jc) j.id _ x = (lk jid (setJ b.Js j.id 1 j.us) x).map jc
    rw [lk_setJ]
    unfold upd
    by_cases e : x = j.id
    · subst e
      rw [if_pos rfl, HK.out]
      show _ = some (jc (if j.id = j.id then _ else _))
      rw [if_pos rfl]
      rfl
    · rw [if_neg e]
      cases hx : lk jid b.Js x with
      | none =>
        show (lk jid b.Js x).map jc = _
        rw [hx]
        rfl
      | some k =>
        show (lk jid b.Js x).map jc = some (jc (if k.id = j.id then _ else _))
        rw [hx, if_neg (fun e2 => e (by rw [← (lk_mem hx).2]; exact e2))]
        rfl
  · show _ = (setJ b.Js j.id 1 j.us).length
    rw [setJ_len]
end
end Go.Proofs.Ytfkebbkfmchnaaa.Bk
