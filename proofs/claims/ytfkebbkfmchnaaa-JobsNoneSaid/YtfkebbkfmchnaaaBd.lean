/- jobs.Book's Drop, Answer, Fail, Lease, Fetch as calls. Conditions: the book lies in memory as told. -/
import Derived.Test.YtfkebbkfmchnaaaBa
import Derived.Deep.QuietTactic
set_option linter.unusedVariables false
namespace Go.Proofs.Ytfkebbkfmchnaaa.Bk
open Go.RowKit Go.Maps Go.Proofs.Ytfkebbkfmchnaaa.PBase Go.Proofs.Ytfkebbkfmchnaaa.Cat Go.Proofs.Ytfkebbkfmchnaaa.Heap Go.Proofs.Ytfkebbkfmchnaaa.Ln Go.Proofs.Ytfkebbkfmchnaaa.Lst Go.Proofs.Ytfkebbkfmchnaaa.Mq Go.Proofs.YtfkebbkfmchnaaaW.PrintWords Go.Proofs.YtfkebbkfmchnaaaW.PrintLast Go.Proofs.YtfkebbkfmchnaaaW.PrintMore
theorem upd_setJ {l : List Jb} {id s u : Int} {j : Jb} (h : lk jid l id = some j) (x : Int) : upd (fun x => (lk jid l x).map jc) id (some ⟨j.cls, s, u⟩) x = (lk jid (setJ l id s u) x).map jc := by
  rw [lk_setJ]
  unfold upd
  by_cases e : x = id
  · subst e
    rw [if_pos rfl, h]
    have h2 : j.id = x := (lk_mem h).2
    show _ = some (jc (if j.id = x then _ else _))
    rw [if_pos h2]
    rfl
  · rw [if_neg e]
    cases hx : lk jid l x with
    | none =>
      show (lk jid l x).map jc = _
      rw [hx]
      rfl
    | some k =>
      show (lk jid l x).map jc = some (jc (if k.id = id then _ else _))
      rw [hx, if_neg (fun e2 => e (by rw [← (lk_mem hx).2]; exact e2))]
      rfl
theorem upd_rm (l : List Jb) (id x : Int) : upd (fun x => (lk jid l x).map jc) id none x = (lk jid (rm jid l id) x).map jc := by
  rw [lk_rm]
  unfold upd
  by_cases e : x = id
  · rw [if_pos e, if_pos e]; rfl
  · rw [if_neg e, if_neg e]
section
variable {N : Nat} {X : Nat → Prop} {W W' : World} {G : Nat} {b : Book}
theorem Inv.rmlen (h : Inv b) {j : Jb} (hj : j ∈ b.Js) : b.Js.length - 1 = (Lst.rm jid b.Js j.id).length := by
  have := rm_len (κ := jid) h.nd (List.mem_map.2 ⟨j, hj, rfl⟩)
  show _ = (Lst.rm jid b.Js (jid j)).length
  omega
/-- The job of a lease. -/
theorem Inv.job (h : Inv b) {g : Gr} (hg : g ∈ b.Ls) : ∃ j, j ∈ b.Js ∧ j.id = g.j ∧ j.st = 2 ∧ lk jid b.Js g.j = some j ∧ 1 ≤ j.us ∧ j.us ≤ b.tr + 1 ∧ (Lit.int .i64 g.j).wf = true := by
  obtain ⟨_, _, j, hj, e, hs⟩ := h.g g hg
  have hok := (h.ok j hj).2
  refine ⟨j, hj, e, hs, ?_, by omega, by omega, e ▸ h.wf j hj⟩
  rw [← e]
  exact lk_get h.nd hj
/-! ### Drop -/
set_option maxHeartbeats 4000000 in
set_option maxRecDepth 100000 in
theorem bdrop_no (h : BI N X W G b) (id : Int) (hi : (Lit.int .i64 id).wf = true) (hin : id ∉ b.Js.map jid) : Calls Try.prog 17 #[ptr G, .int .i64 id] W fun e w' => e = .returned (.bool false) ∧ Below W.heap.size W w' := by
  obtain ⟨⟨B, T, mj, ma, mo, h1⟩, h2⟩ := h
  have c4 := h1.c4
  have hlook := h1.j.look ekJc hi 0
  rw [lk_none.2 hin] at hlook
  replace hlook : (Instr.lookup 70 (.map (some mj)) (.int .i64 id) true).run Try.prog W = .ok (.tuple #[.agg #[.int .i64 0, .int .i64 0, .int .i64 0], .bool false]) W := hlook
  clear h1 h2 hin
  go_enter Try.func17, Try.ntmps17
  go_wp2
  go_ret
  exact ⟨rfl, below_alloc (Below.refl _ _) _⟩
set_option maxHeartbeats 4000000 in
set_option maxRecDepth 100000 in
theorem bdrop_yes (h : BI N X W G b) (id : Int) (hi : (Lit.int .i64 id).wf = true) (hin : id ∈ b.Js.map jid) (hct : b.ct ≤ 1000000) : Calls Try.prog 17 #[ptr G, .int .i64 id] W fun e w' => e = .returned (.bool true) ∧ Aside0 (BI N X w' G (goneB b id) ∧ Fr (KX N X) W w') := by
  obtain ⟨⟨B, T, mj, ma, mo, h1⟩, hI⟩ := h
  obtain ⟨x, hx⟩ : ∃ x, lk jid b.Js id = some x := Option.isSome_iff_exists.1 (lk_isSome.2 hin)
  obtain ⟨hxm, hxi⟩ := lk_mem hx
  have c4 := h1.c4
  have hlook := h1.j.look ekJc hi 0
  rw [hx] at hlook
  replace hlook : (Instr.lookup 70 (.map (some mj)) (.int .i64 id) true).run Try.prog W = .ok (.tuple #[.agg #[.int .i64 x.cls, .int .i64 x.st, .int .i64 x.us], .bool true]) W := hlook
  have H1 := Aside0.mk h1
  have HI := Aside0.mk hI
  have HX := Aside0.mk (And.intro hx (And.intro hxm (show x.id = id from hxi)))
  have hl90 : Aside0 (b.L.length ≤ 90000) := ⟨by have := hI.len; have := hI.le; have := hI.rm; omega⟩
  clear h1 hI hx hxm hxi hin
  cases hg : lk gjo b.Ls id with
  | none =>
    have HG := Aside0.mk (rm_no (lk_none.1 hg))
    have hg := Aside0.mk hg
    go_enter Try.func17, Try.ntmps17
    go_upto_region 6 with (fail)
    generalize hw2 : (W.alloc (.cells #[.int .i64 x.cls, .int .i64 x.st, .int .i64 x.us] 74)) = w2
    have hb2 : Below W.heap.size W w2 := by rw [← hw2]; exact below_alloc (Below.refl _ _) _
    have H2 := H1.out.step hb2
    have e3 := H2.c3
    have hof := of_calls H2.t id hi none (by rw [hg.out]; rfl)
    have H2 := Aside0.mk H2
    have hb2 := Aside0.mk hb2
    clear hw2 hlook c4 H1
    go_upto_region 9 with (go_at_call 40; refine hof.mono ?_; clear hof; rintro e w3 ⟨rfl, hb3⟩)
    have H3 := H2.out.step hb3
    have e0 := H3.c0
    have hd := drop_I H3.q id hl90.out _ _ rfl rfl
    have H3 := Aside0.mk H3
    have hb3 := Aside0.mk (below_step hb2.out hb3)
    clear e3
    go_upto_region 10 with (go_at_call 41; refine hd.mono ?_; clear hd; rintro e w4 ⟨rfl, hq4, hf4⟩)
    obtain ⟨H4, hF4⟩ := H3.out.queue hq4 hf4
    have e4 := H4.c4
    obtain ⟨w5, hrun5, hM5, ht5⟩ := H4.j.drop ekJc hi 0
    obtain ⟨H5, hF5⟩ := H4.open_ hM5 (Fr.of_turned ht5)
    have H5 := Aside0.mk H5
    have hF := Aside0.mk ((Fr.of_below hb3.out).trans (hF4.trans hF5))
    clear e0 hq4 hf4 H4 hF4 hM5 ht5 hF5
    go_wp2
    go_ret
    refine ⟨rfl, ⟨⟨⟨B, T, mj, ma, mo, H5.out.congr (upd_rm b.Js id) ?_ HG.out.symm⟩, HI.out.gone id⟩, hF.out⟩⟩
    rw [HX.out.1, ← HX.out.2.2]
    exact HI.out.rmlen HX.out.2.1
  | some g =>
    obtain ⟨hgm, hgj⟩ := lk_mem hg
    have hgj : g.j = id := hgj
    have hgk := HI.out.g g hgm
    have hnw : (Lit.int .i64 g.n).wf = true := Go.WalkArith.wf_i64 (by omega)
    have hgn : lk gno b.Ls g.n = some g := lk_get (κ := gno) HI.out.gn hgm
    have hg := Aside0.mk hg
    have HG := Aside0.mk (And.intro hgn hgj)
    clear hgm hgk hgn hgj
    go_enter Try.func17, Try.ntmps17
    go_upto_region 6 with (fail)
    generalize hw2 : (W.alloc (.cells #[.int .i64 x.cls, .int .i64 x.st, .int .i64 x.us] 74)) = w2
    have hb2 : Below W.heap.size W w2 := by rw [← hw2]; exact below_alloc (Below.refl _ _) _
    have H2 := H1.out.step hb2
    have e3 := H2.c3
    have hof := of_calls H2.t id hi (some g.n) (by rw [hg.out]; rfl)
    have H2 := Aside0.mk H2
    have hb2 := Aside0.mk hb2
    clear hw2 hlook c4 H1
    go_upto_region 8 with (go_at_call 40; refine hof.mono ?_; clear hof; rintro e w3 ⟨rfl, hb3⟩)
    have H3 := H2.out.step hb3
    have e3' := H3.c3
    have hdr := drop_yes_calls H3.t HI.out.gn HI.out.gj g.n hnw g HG.out.1 (by rw [HG.out.2]; exact hi)
    rw [HG.out.2] at hdr
    have H3 := Aside0.mk H3
    have hb3 := Aside0.mk (below_step hb2.out hb3)
    clear e3
    go_upto_region 9 with (go_at_call 39; refine hdr.mono ?_; clear hdr; rintro e w3 ⟨rfl, hg3⟩)
    obtain ⟨H3', hF3⟩ := H3.out.table hg3.out.1 hg3.out.2
    have e0 := H3'.c0
    have hd := drop_I H3'.q id hl90.out _ _ rfl rfl
    have H3' := Aside0.mk H3'
    have hF3 := Aside0.mk hF3
    clear hg3 e3'
    go_upto_region 10 with (go_at_call 41; refine hd.mono ?_; clear hd; rintro e w4 ⟨rfl, hq4, hf4⟩)
    obtain ⟨H4, hF4⟩ := H3'.out.queue hq4 hf4
    have e4 := H4.c4
    obtain ⟨w5, hrun5, hM5, ht5⟩ := H4.j.drop ekJc hi 0
    obtain ⟨H5, hF5⟩ := H4.open_ hM5 (Fr.of_turned ht5)
    have H5 := Aside0.mk H5
    have hF := Aside0.mk ((Fr.of_below hb3.out).trans (hF3.out.trans (hF4.trans hF5)))
    clear e0 hq4 hf4 H4 hF4 hM5 ht5 hF5
    go_wp2
    go_ret
    refine ⟨rfl, ⟨⟨⟨B, T, mj, ma, mo, H5.out.congr (upd_rm b.Js id) ?_ rfl⟩, HI.out.gone id⟩, hF.out⟩⟩
    rw [HX.out.1, ← HX.out.2.2]
    exact HI.out.rmlen HX.out.2.1
/-! ### Answer -/
set_option maxHeartbeats 4000000 in
set_option maxRecDepth 100000 in
theorem answer_no (h : BI N X W G b) (n : Int) (hn : (Lit.int .i64 n).wf = true) (hg : lk gno b.Ls n = none) : Calls Try.prog 13 #[ptr G, .int .i64 n] W fun e w' => e = .returned (.tuple #[.int .i64 0, .int .i64 13]) ∧ Below W.heap.size W w' := by
  obtain ⟨⟨B, T, mj, ma, mo, h1⟩, hI⟩ := h
  have c3 := h1.c3
  have hdr := drop_no_calls h1.t n hn hg
  clear h1 hI hg
  go_enter Try.func13, Try.ntmps13
  go_wp2_with (go_at_call 39; refine hdr.mono ?_; rintro e w3 ⟨rfl, hb3⟩)
  go_ret2
  exact ⟨rfl, hb3⟩
set_option maxHeartbeats 4000000 in
set_option maxRecDepth 100000 in
theorem answer_yes (h : BI N X W G b) (n : Int) (hn : (Lit.int .i64 n).wf = true) (g : Gr) (hg : lk gno b.Ls n = some g) : Calls Try.prog 13 #[ptr G, .int .i64 n] W fun e w' => e = .returned (.tuple #[.int .i64 g.j, .int .i64 0]) ∧ Aside0 (BI N X w' G (goneB b g.j) ∧ Fr (KX N X) W w') := by
  obtain ⟨⟨B, T, mj, ma, mo, h1⟩, hI⟩ := h
  have c3 := h1.c3
  obtain ⟨j, hj, hji, hjs, hjk, hu1, hu2, hjw⟩ := hI.job (lk_mem hg).1
  have hdr := drop_yes_calls h1.t hI.gn hI.gj n hn g hg hjw
  have hdl := drop_no (ag := b.ag) (by rw [← hji]; exact hI.not_waits hj (by omega) : g.j ∉ ids b.L)
  have hlm : b.Js.length < maxLen := by have := hI.le; have := hI.rm; unfold maxLen; omega
  have H1 := Aside0.mk h1
  have HI := Aside0.mk hI
  have HJ := Aside0.mk (And.intro hj (And.intro hji (And.intro hjs hjk)))
  have hdl := Aside0.mk hdl
  clear h1 hI hj hji hjs hjk hg
  go_enter Try.func13, Try.ntmps13
  go_upto_region 6 with (go_at_call 39; refine hdr.mono ?_; clear hdr; rintro e w3 ⟨rfl, hg3⟩)
  obtain ⟨H3, hF3⟩ := H1.out.table hg3.out.1 hg3.out.2
  have hst := step_end H3 g.j 2 hjw (jc j) (by show (lk jid b.Js g.j).map jc = _; rw [HJ.out.2.2.2]; rfl) 4 j.us (by rw [show (jc j).st = 2 from HJ.out.2.2.1]; exact S_answer HI.out.tr ⟨hu1, hu2⟩) (.inl rfl) hlm
  have H3 := Aside0.mk H3
  have hF3 := Aside0.mk hF3
  clear hg3 c3
  go_wp2_with (go_at_call 37; refine hst.mono ?_; rintro e w4 ⟨rfl, hg4⟩)
  go_ret2
  obtain ⟨H4, hF4⟩ := H3.out.open_ hg4.out.1 hg4.out.2
  refine ⟨rfl, ⟨⟨⟨B, T, mj, ma, mo, ?_⟩, HI.out.gone g.j⟩, hF3.out.trans hF4⟩⟩
  show RM N X w4 G B T mj ma mo b.ag b.rm b.tr b.ct b.ct (dropL b.ag b.L g.j) _ _ _
  rw [hdl.out]
  exact H4.congr (upd_rm b.Js g.j) (by rw [← HJ.out.2.1]; exact HI.out.rmlen HJ.out.1) rfl
/-! ### Fail -/
set_option maxHeartbeats 4000000 in
set_option maxRecDepth 100000 in
theorem fail_no (h : BI N X W G b) (n : Int) (hn : (Lit.int .i64 n).wf = true) (hg : lk gno b.Ls n = none) : Calls Try.prog 14 #[ptr G, .int .i64 n] W fun e w' => e = .returned (.tuple #[.int .i64 0, .bool false, .int .i64 13]) ∧ Below W.heap.size W w' := by
  obtain ⟨⟨B, T, mj, ma, mo, h1⟩, hI⟩ := h
  have c3 := h1.c3
  have hdr := drop_no_calls h1.t n hn hg
  clear h1 hI hg
  go_enter Try.func14, Try.ntmps14
  go_wp2_with (go_at_call 39; refine hdr.mono ?_; rintro e w3 ⟨rfl, hb3⟩)
  go_ret3
  exact ⟨rfl, hb3⟩
/-- What Fail leaves. -/
def failB (b : Book) (g : Gr) : Book := if b.tr < usedOf b g.j then goneB b g.j else restB b g.j (usedOf b g.j)
set_option maxHeartbeats 8000000 in
set_option maxRecDepth 100000 in
theorem fail_yes (h : BI N X W G b) (n : Int) (hn : (Lit.int .i64 n).wf = true) (g : Gr) (hg : lk gno b.Ls n = some g) : Calls Try.prog 14 #[ptr G, .int .i64 n] W fun e w' => e = .returned (.tuple #[.int .i64 g.j, .bool (decide (b.tr < usedOf b g.j)), .int .i64 0]) ∧ Aside0 (BI N X w' G (failB b g) ∧ Fr (KX N X) W w') := by
  obtain ⟨⟨B, T, mj, ma, mo, h1⟩, hI⟩ := h
  have c3 := h1.c3
  obtain ⟨j, hj, hji, hjs, hjk, hu1, hu2, hjw⟩ := hI.job (lk_mem hg).1
  have hus : usedOf b g.j = j.us := by unfold usedOf; rw [hjk]; rfl
  have hdr := drop_yes_calls h1.t hI.gn hI.gj n hn g hg hjw
  have hdl := drop_no (ag := b.ag) (by rw [← hji]; exact hI.not_waits hj (by omega) : g.j ∉ ids b.L)
  have hlm : b.Js.length < maxLen := by have := hI.le; have := hI.rm; unfold maxLen; omega
  unfold failB
  rw [hus]
  have H1 := Aside0.mk h1
  have HI := Aside0.mk hI
  have HJ := Aside0.mk (And.intro hj (And.intro hji (And.intro hjs hjk)))
  have hdl := Aside0.mk hdl
  clear h1 hI hj hji hjs hjk hg
  by_cases hd : b.tr < j.us
  · rw [if_pos hd, decide_eq_true hd]
    have hS : S b.tr 2 j.us 3 = (5, j.us, true) := by rw [S_fail HI.out.tr ⟨hu1, hu2⟩, if_pos hd]
    have hd := Aside0.mk hd
    go_enter Try.func14, Try.ntmps14
    go_upto_region 6 with (go_at_call 39; refine hdr.mono ?_; clear hdr; rintro e w3 ⟨rfl, hg3⟩)
    obtain ⟨H3, hF3⟩ := H1.out.table hg3.out.1 hg3.out.2
    have hst := step_end H3 g.j 3 hjw (jc j) (by show (lk jid b.Js g.j).map jc = _; rw [HJ.out.2.2.2]; rfl) 5 j.us (by rw [show (jc j).st = 2 from HJ.out.2.2.1]; exact hS) (.inr rfl) hlm
    have H3 := Aside0.mk H3
    have hF3 := Aside0.mk hF3
    clear hg3 c3 hu1 hu2 hS
    go_upto_region 7 with (go_at_call 37; refine hst.mono ?_; clear hst; rintro e w4 ⟨rfl, hg4⟩)
    go_quiet (fail)
    go_wp2
    go_ret3
    obtain ⟨H4, hF4⟩ := H3.out.open_ hg4.out.1 hg4.out.2
    have hbz : Below w4.heap.size w4 ((w4.alloc (.cells #[.int .i64 5, .int .i64 j.us] 44)).drewN nq) := below_step (below_alloc (Below.refl _ _) _) (pw_below_drewN (Below.refl _ _) nq)
    refine ⟨rfl, ⟨⟨⟨B, T, mj, ma, mo, ?_⟩, HI.out.gone g.j⟩, (hF3.out.trans hF4).trans (Fr.of_below hbz)⟩⟩
    show RM N X _ G B T mj ma mo b.ag b.rm b.tr b.ct b.ct (dropL b.ag b.L g.j) _ _ _
    rw [hdl.out]
    exact (H4.step hbz).congr (upd_rm b.Js g.j) (by rw [← HJ.out.2.1]; exact HI.out.rmlen HJ.out.1) rfl
  · rw [if_neg hd, decide_eq_false hd]
    have hS : S b.tr 2 j.us 3 = (3, j.us, true) := by rw [S_fail HI.out.tr ⟨hu1, hu2⟩, if_neg hd]
    have hd := Aside0.mk hd
    go_enter Try.func14, Try.ntmps14
    go_upto_region 6 with (go_at_call 39; refine hdr.mono ?_; clear hdr; rintro e w3 ⟨rfl, hg3⟩)
    obtain ⟨H3, hF3⟩ := H1.out.table hg3.out.1 hg3.out.2
    have hst := step_go H3 g.j 3 hjw (jc j) (by show (lk jid b.Js g.j).map jc = _; rw [HJ.out.2.2.2]; rfl) 3 j.us (by rw [show (jc j).st = 2 from HJ.out.2.2.1]; exact hS) (by decide) (by decide) hlm
    have H3 := Aside0.mk H3
    have hF3 := Aside0.mk hF3
    clear hg3 c3 hu1 hu2 hS
    go_upto_region 7 with (go_at_call 37; refine hst.mono ?_; clear hst; rintro e w4 ⟨rfl, hg4⟩)
    go_quiet (fail)
    go_wp2
    go_ret3
    obtain ⟨H4, hF4⟩ := H3.out.open_ hg4.out.1 hg4.out.2
    have hbz : Below w4.heap.size w4 ((w4.alloc (.cells #[.int .i64 3, .int .i64 j.us] 44)).drewN nq) := below_step (below_alloc (Below.refl _ _) _) (pw_below_drewN (Below.refl _ _) nq)
    have hr := HI.out.rest HJ.out.1 HJ.out.2.2.1 (by have := hd.out; omega)
    rw [HJ.out.2.1] at hr
    exact ⟨rfl, ⟨⟨⟨B, T, mj, ma, mo, (H4.step hbz).congr (upd_setJ HJ.out.2.2.2) (setJ_len _ _ _ _).symm rfl⟩, hr⟩, (hF3.out.trans hF4).trans (Fr.of_below hbz)⟩⟩
end
end Go.Proofs.Ytfkebbkfmchnaaa.Bk
