/- jobs.Book's Lease, Fetch as calls. Conditions: the book lies in memory as told. -/
import Derived.Test.YtfkebbkfmchnaaaBd
import Derived.StillTailTactics
set_option linter.unusedVariables false
namespace Go.Proofs.Ytfkebbkfmchnaaa.Bk
open Go.RowKit Go.Maps Go.Proofs.Ytfkebbkfmchnaaa.PBase Go.Proofs.Ytfkebbkfmchnaaa.Cat Go.Proofs.Ytfkebbkfmchnaaa.Heap Go.Proofs.Ytfkebbkfmchnaaa.Ln Go.Proofs.Ytfkebbkfmchnaaa.Lst Go.Proofs.Ytfkebbkfmchnaaa.Mq Go.Proofs.YtfkebbkfmchnaaaW.PrintWords Go.Proofs.YtfkebbkfmchnaaaW.PrintLast Go.Proofs.YtfkebbkfmchnaaaW.PrintMore
section
variable {N : Nat} {X : Nat → Prop} {W W' : World} {G : Nat} {b : Book}
theorem Inv.llen (h : Inv b) : b.Ls.length ≤ b.Js.length := by
  have e1 : (b.Ls.map gjo).length = b.Ls.length := by simp
  have e0 : (b.Js.map jid).length = b.Js.length := by simp
  rw [← e1, ← e0]
  refine nd_len h.gj (fun x hx => ?_)
  obtain ⟨g, hg, rfl⟩ := List.mem_map.1 hx
  obtain ⟨_, _, j, hj, e, _⟩ := h.g g hg
  exact List.mem_map.2 ⟨j, hj, e⟩
section
variable {B T mj ma mo : Nat} {ag rm tr ct last : Int} {L : List S77} {f : Int → Option Jc} {c : Nat} {Ls : List Gr}
theorem RM.mem (h : RM N X W G B T mj ma mo ag rm tr ct last L f c Ls) (k : Nat) (hk : k = G ∨ k = mj ∨ TF T ma mo k) : k < W.heap.size := by
  rcases hk with rfl | rfl | rfl | rfl | rfl
  · exact h.glt
  · exact h.j.lt
  · exact h.t.lt
  · exact h.t.a.lt
  · exact h.t.o.lt
/-- New blocks are kept too. -/
theorem RM.more {Y : Nat → Prop} (h : RM N X W G B T mj ma mo ag rm tr ct last L f c Ls) (hb : Below W.heap.size W W') (hY : ∀ k, Y k → W.heap.size ≤ k ∧ k < W'.heap.size) : RM N (fun k => X k ∨ Y k) W' G B T mj ma mo ag rm tr ct last L f c Ls := by
  have h2 := h.step hb
  refine ⟨h2.g, h2.t, QI.sub (h.q.more hb hY) (fun k hk => ?_), h2.j, fun k hk => ⟨(h.lo k hk).1, ?_⟩, h.n1, h.n2, h.n3⟩
  · rcases hk with (hk | hk) | hk
    · exact .inl (.inl hk)
    · exact .inr hk
    · exact .inl (.inr hk)
  · rintro (hx | hy)
    · exact (h.lo k hk).2 hx
    · have h3 := h.mem k hk
      have h4 := (hY k hy).1
      omega
theorem RM.sub {Y : Nat → Prop} (h : RM N X W G B T mj ma mo ag rm tr ct last L f c Ls) (hs : ∀ k, Y k → X k) : RM N Y W G B T mj ma mo ag rm tr ct last L f c Ls :=
  ⟨h.g, h.t, QI.sub h.q (fun k hk => hk.imp (hs k) (fun h => h)), h.j, fun k hk => ⟨(h.lo k hk).1, fun e => (h.lo k hk).2 (hs k e)⟩, h.n1, h.n2, h.n3⟩
/-- X's blocks may change. -/
theorem RM.keep (h : RM N X W G B T mj ma mo ag rm tr ct last L f c Ls) (hf : Fr X W W') : RM N X W' G B T mj ma mo ag rm tr ct last L f c Ls :=
  ⟨(hf.blk G h.glt (h.lo G (.inl rfl)).2).trans h.g, h.t.fr hf (fun k hk => (h.lo k (.inr (.inr hk))).2), h.q.keep (hf.weak (fun k hk => .inl hk)), h.j.fr hf (h.lo mj (.inr (.inl rfl))).2, h.lo, h.n1, h.n2, h.n3⟩
end
theorem BI.keep (h : BI N X W G b) (hf : Fr X W W') : BI N X W' G b := by
  obtain ⟨⟨B, T, mj, ma, mo, h1⟩, h2⟩ := h
  exact ⟨⟨B, T, mj, ma, mo, h1.keep hf⟩, h2⟩
theorem fr_set6 (W : World) (g : Nat) (v0 v1 v2 v3 v4 v5 : Value) : Fr (fun k => k = g) W ((((((W.setCell ⟨g, 0, none⟩ v0).setCell ⟨g, 1, none⟩ v1).setCell ⟨g, 2, none⟩ v2).setCell ⟨g, 3, none⟩ v3).setCell ⟨g, 4, none⟩ v4).setCell ⟨g, 5, none⟩ v5) :=
  fr_trans (fr_trans (fr_trans (fr_trans (fr_trans (fr_set _ _ _ _) (fr_set _ _ _ _)) (fr_set _ _ _ _)) (fr_set _ _ _ _)) (fr_set _ _ _ _)) (fr_set _ _ _ _)
theorem store6 {ops : Array Oper} {o : Oper} {rest : List Oper} {a : Act} {Q : Exit → Act → World → Prop} {W : World} {g : Nat} (hg : o.guard = none) (p x : Operand) (ho : o.op = .store 33 p x) (hd : o.dst = none)
    (hp : a.eval p = ptr g) (n j t u : Int) (hx : a.eval x = lv n j t u) (hh : W.heap[g]? = some (.cells #[.int .i64 0, .int .i64 0, .int .i64 0, .int .i64 0, .int .i64 0, .int .u64 0] 33 (0, 0))) (h : ∀ w', w'.heap[g]? = some (.cells #[.int .i64 n, .int .i64 j, .int .i64 0, .int .i64 0, .int .i64 t, .int .u64 u] 33 (0, 0)) → Fr (fun k => k = g) W w' → wpList Try.prog ops Q rest (a.put none undef) w') :
    wpList Try.prog ops Q (o :: rest) a W := by
  refine wpList_plain hg fun K' hK' => ?_
  have hrun := run_store_run (P := Try.prog) (o := 0) 33 (lv n j t u) [.int .i64 n, .int .i64 j, .int .i64 0, .int .i64 0, .int .i64 t, .int .u64 u] hh rfl (by kernel_rfl) (Nat.le_refl 6) (by
    intro q hq
    simp only [List.mem_cons, List.not_mem_nil, or_false] at hq
    rcases hq with rfl | rfl | rfl | rfl | rfl | rfl <;> rfl)
  unfold Oper.wp execOp
  simp only [ho, hp, hx, Sem.run_bind, Sem.run_pure, Result.andThen_ok, hrun]
  show K' (a.put o.dst undef) _
  rw [hd]
  exact hK' _ _ (h _ (blk_put (blk_put (blk_put (blk_put (blk_put (blk_put hh 0 _ rfl) 1 _ rfl) 2 _ rfl) 3 _ rfl) 4 _ rfl) 5 _ rfl) (fr_set6 _ _ _ _ _ _ _ _))
theorem BI.more {Y : Nat → Prop} (h : BI N X W G b) (hb : Below W.heap.size W W') (hY : ∀ k, Y k → W.heap.size ≤ k ∧ k < W'.heap.size) : BI N (fun k => X k ∨ Y k) W' G b := by
  obtain ⟨⟨B, T, mj, ma, mo, h1⟩, h2⟩ := h
  exact ⟨⟨B, T, mj, ma, mo, h1.more hb hY⟩, h2⟩
theorem BI.sub {Y : Nat → Prop} (h : BI N X W G b) (hs : ∀ k, Y k → X k) : BI N Y W G b := by
  obtain ⟨⟨B, T, mj, ma, mo, h1⟩, h2⟩ := h
  exact ⟨⟨B, T, mj, ma, mo, h1.sub hs⟩, h2⟩
theorem kx_sub {N : Nat} {X Y : Nat → Prop} (hs : ∀ k, Y k → X k) (k : Nat) (h : KX N X k) : KX N Y k := ⟨h.1, fun e => h.2 (hs k e)⟩
theorem below_step_fr {W w w' : World} (h : Below W.heap.size W w) (hf : Fr (fun k => k = W.heap.size) w w') : Below W.heap.size W w' := (Fr.then_ (Fr.of_below (F := fun _ => False) h) hf (fun b hb => .inr (Nat.le_of_eq hb.symm))).below (Nat.le_refl _) (fun k h => h.elim)
abbrev zl : Obj := .cells #[.int .i64 0, .int .i64 0, .int .i64 0, .int .i64 0, .int .i64 0, .int .u64 0] 33
/-! ### Lease -/
set_option maxHeartbeats 4000000 in
set_option maxRecDepth 100000 in
theorem lease_no (h : BI N X W G b) (n : Int) (hn : (Lit.int .i64 n).wf = true) (hg : lk gno b.Ls n = none) : Calls Try.prog 20 #[ptr G, .int .i64 n] W fun e w' => e = .returned (.tuple #[lv 0 0 0 0, .bool false]) ∧ Below W.heap.size W w' := by
  obtain ⟨⟨B, T, mj, ma, mo, h1⟩, hI⟩ := h
  have hb1 : Below W.heap.size W (W.alloc zl) := below_alloc (Below.refl _ _) _
  have h2 := h1.step hb1
  have c3 := h2.c3
  have hlk := look_calls h2.t n hn ⟨0, 0, 0⟩ (by rw [hg]; rfl) false (by rw [hg]; rfl)
  have hx := blk_new W zl
  have hb1 := Aside0.mk hb1
  have HX := Aside0.mk hx
  clear h1 h2 hI hg hx
  go_enter Try.func20, Try.ntmps20
  go_upto_region 5 with (go_at_call 42; refine hlk.mono ?_; clear hlk; rintro e w1 ⟨rfl, hbz⟩)
  generalize hw2 : w1.alloc (.cells #[.int .i64 0, .int .i64 0, .int .u64 0] 85) = w2
  have hb2 : Below w1.heap.size w1 w2 := by rw [← hw2]; exact below_alloc (Below.refl _ _) _
  have hx2 := blk_below (blk_below HX.out hbz) hb2
  have s0 := (blk_cell hx2 0).trans rfl
  have s1 := (blk_cell hx2 1).trans rfl
  have s2 := (blk_cell hx2 2).trans rfl
  have s3 := (blk_cell hx2 3).trans rfl
  have s4 := (blk_cell hx2 4).trans rfl
  have s5 := (blk_cell hx2 5).trans rfl
  have f0 := blk_frozen hx2 0
  have f1 := blk_frozen hx2 1
  have f2 := blk_frozen hx2 2
  have f3 := blk_frozen hx2 3
  have f4 := blk_frozen hx2 4
  have f5 := blk_frozen hx2 5
  have hx2 := Aside0.mk hx2
  have hbb := Aside0.mk (below_step (below_step hb1.out hbz) hb2)
  clear hw2 hbz hb2 c3
  go_wp2
  exact lease_ret (g := W.heap.size) rfl rfl (blk_put (blk_put (blk_put (blk_put (blk_put (blk_put hx2.out 0 _ rfl) 1 _ rfl) 2 _ rfl) 3 _ rfl) 4 _ rfl) 5 _ rfl) ⟨rfl, below_set (below_set (below_set (below_set (below_set (below_set hbb.out (Nat.le_refl _)) (Nat.le_refl _)) (Nat.le_refl _)) (Nat.le_refl _)) (Nat.le_refl _)) (Nat.le_refl _)⟩
set_option maxHeartbeats 8000000 in
set_option maxRecDepth 100000 in
theorem lease_yes (h : BI N X W G b) (n : Int) (hn : (Lit.int .i64 n).wf = true) (g : Gr) (hg : lk gno b.Ls n = some g) (us : Int) (hus : usedOf b g.j = us) : Calls Try.prog 20 #[ptr G, .int .i64 n] W fun e w' => e = .returned (.tuple #[lv g.n g.j us g.u, .bool true]) ∧ Below W.heap.size W w' := by
  obtain ⟨⟨B, T, mj, ma, mo, h1⟩, hI⟩ := h
  obtain ⟨j, hj, hji, hjs, hjk, hu1, hu2, hjw⟩ := hI.job (lk_mem hg).1
  have hju : j.us = us := by rw [← hus]; unfold usedOf; rw [hjk]; rfl
  have hb1 : Below W.heap.size W (W.alloc zl) := below_alloc (Below.refl _ _) _
  have h2 := h1.step hb1
  have c3 := h2.c3
  have hlk := look_calls h2.t n hn g (by rw [hg]; rfl) true (by rw [hg]; rfl)
  have hx := blk_new W zl
  have H2 := Aside0.mk h2
  have hb1 := Aside0.mk hb1
  have HX := Aside0.mk hx
  have HJ := Aside0.mk (And.intro hjk hju)
  clear h1 h2 hI hg hx hj hji hjs hjk hu1 hu2 hju hus
  go_enter Try.func20, Try.ntmps20
  go_upto_region 6 with (go_at_call 42; refine hlk.mono ?_; clear hlk; rintro e w1 ⟨rfl, hbz⟩)
  generalize hw2 : w1.alloc (.cells #[.int .i64 g.n, .int .i64 g.j, .int .u64 g.u] 85) = w2
  have hb2 : Below w1.heap.size w1 w2 := by rw [← hw2]; exact below_alloc (Below.refl _ _) _
  have hx2 := blk_below (blk_below HX.out hbz) hb2
  have hy2 : w2.heap[w1.heap.size]? = some (.cells #[.int .i64 g.n, .int .i64 g.j, .int .u64 g.u] 85 (0, 0)) := by rw [← hw2]; exact blk_new _ _
  have hbb := below_step hbz hb2
  have H3 := H2.out.step hbb
  have hWl : W.heap.size < w1.heap.size := Nat.lt_of_lt_of_le (blk_lt HX.out) hbz.size
  have hGl := H2.out.glt
  have hGne : G ≠ W.heap.size := by
    intro e
    have h5 := H2.out.g
    rw [e, HX.out] at h5
    injection h5 with h5
    injection h5 with h5 h6
    exact absurd h6 (by decide)
  have hl0 : ∀ a, (Instr.lookup 70 (.map (some mj)) (.int .i64 g.j) false).run Try.prog (w2.drewN a) = .ok (.agg #[.int .i64 j.cls, .int .i64 j.st, .int .i64 us]) (w2.drewN a) := fun a => by
    have h := H3.j.look1 ekJc hjw a
    rw [show (lk jid b.Js g.j).map jc = some (jc j) from by rw [HJ.out.1]; rfl] at h
    rw [← HJ.out.2]
    exact h
  have hlook : (Instr.lookup 70 (.map (some mj)) (.int .i64 g.j) false).run Try.prog w2 = .ok (.agg #[.int .i64 j.cls, .int .i64 j.st, .int .i64 us]) w2 := hl0 0
  have hlook1 : (Instr.lookup 70 (.map (some mj)) (.int .i64 g.j) false).run Try.prog w2.drew = .ok (.agg #[.int .i64 j.cls, .int .i64 j.st, .int .i64 us]) w2.drew := hl0 1
  have fl1 := fld1 j.cls j.st us
  have fl2 := fld2 j.st us
  have g4 := H3.c4
  have y0 := (blk_cell hy2 0).trans rfl
  have y1 := (blk_cell hy2 1).trans rfl
  have y2 := (blk_cell hy2 2).trans rfl
  have hx2 : Aside0 (w2.drew.heap[W.heap.size]? = some (.cells #[.int .i64 0, .int .i64 0, .int .i64 0, .int .i64 0, .int .i64 0, .int .u64 0] 33 (0, 0))) := ⟨hx2⟩
  have hbb := Aside0.mk (below_drew1 (below_step (below_step hb1.out hbz) hb2))
  clear hw2 hbz hb2 c3 hy2 H3 H2 hWl hGl hGne hl0
  go_still_tail 16, (by kernel_rfl)
  change wpList _ _ _ _ _ w2.drew
  refine store6 rfl (.tmp 4) (.tmp 38) rfl rfl rfl g.n g.j us g.u rfl hx2.out ?_
  intro w6 hx6 hf6
  go_wp2
  exact lease_ret (g := W.heap.size) rfl rfl hx6 ⟨rfl, below_step_fr hbb.out hf6⟩
/-! ### Fetch -/
set_option maxHeartbeats 8000000 in
set_option maxRecDepth 100000 in
theorem fetch_no (h : BI N X W G b) (un : Int) (h0 : b.L = []) : Calls Try.prog 12 #[ptr G, .int .u64 un] W fun e w' => e = .returned (.tuple #[lv 0 0 0 0, .int .i64 12]) ∧ Aside0 (BI N X w' G b ∧ Fr (KX N X) W w') := by
  obtain ⟨⟨B, T, mj, ma, mo, h1⟩, hI⟩ := h
  have hb1 : Below W.heap.size W (W.alloc zl) := below_alloc (Below.refl _ _) _
  have h2 := h1.more (Y := fun k => k = W.heap.size) hb1 (fun k hk => ⟨Nat.le_of_eq hk.symm, by rw [hk]; simp⟩)
  have c0 := h2.c0
  have hq := h2.q
  rw [h0] at hq
  have htk := empty_I hq
  have hx := blk_new W zl
  have H2 := Aside0.mk h2
  have hb1 := Aside0.mk hb1
  have HX := Aside0.mk hx
  have HI := Aside0.mk hI
  have H0 := Aside0.mk h0
  clear h1 h2 hI hx h0 hq
  go_enter Try.func12, Try.ntmps12
  go_upto_region 5 with (go_at_call 36; refine htk.mono ?_; clear htk; rintro e w1 ⟨rfl, hq1, hf1⟩)
  generalize hw2 : w1.alloc (.cells #[.int .i64 0, .int .i64 0, .int .i64 0] 77) = w2
  have hb2 : Below w1.heap.size w1 w2 := by rw [← hw2]; exact below_alloc (Below.refl _ _) _
  rw [← H0.out] at hq1
  obtain ⟨H3, hF3⟩ := H2.out.queue hq1 hf1
  have hx1 := (hf1.blk W.heap.size (blk_lt HX.out) (fun e => e.2 (.inl (.inr rfl)))).trans HX.out
  have hx2 := blk_below hx1 hb2
  have s0 := (blk_cell hx2 0).trans rfl
  have f0 := blk_frozen hx2 0
  have s1 := (blk_cell hx2 1).trans rfl
  have f1 := blk_frozen hx2 1
  have s2 := (blk_cell hx2 2).trans rfl
  have f2 := blk_frozen hx2 2
  have s3 := (blk_cell hx2 3).trans rfl
  have f3 := blk_frozen hx2 3
  have s4 := (blk_cell hx2 4).trans rfl
  have f4 := blk_frozen hx2 4
  have s5 := (blk_cell hx2 5).trans rfl
  have f5 := blk_frozen hx2 5
  have hx2 := Aside0.mk hx2
  have H3 := Aside0.mk (H3.step hb2)
  have hbe := Aside0.mk ((Fr.of_below hb1.out).trans ((hF3.weak (kx_sub (fun k hk => .inl hk))).trans (Fr.of_below hb2)))
  clear hw2 hb2 c0 hq1 hf1 hF3 hx1
  go_wp2
  have hE := fr_set6 w2 W.heap.size (.int .i64 0) (.int .i64 0) (.int .i64 0) (.int .i64 0) (.int .i64 0) (.int .u64 0)
  exact fetch_ret (g := W.heap.size) rfl rfl ((blk_put (blk_put (blk_put (blk_put (blk_put (blk_put hx2.out 0 _ rfl) 1 _ rfl) 2 _ rfl) 3 _ rfl) 4 _ rfl) 5 _ rfl)) ⟨rfl, ⟨⟨⟨B, T, mj, ma, mo, (H3.out.keep (hE.weak (fun k hk => .inr hk))).sub (fun k hk => .inl hk)⟩, HI.out⟩, Fr.then_ hbe.out hE (fun b hb => .inr (Nat.le_of_eq hb.symm))⟩⟩
set_option maxHeartbeats 8000000 in
set_option maxRecDepth 100000 in
theorem fetch_yes (h : BI N X W G b) (un : Int) (h0 : 0 < b.L.length) (hct : b.ct ≤ 100000) (us : Int) (hus : usedOf b (fetchJ b).f0 = us) (c1 : Int) (hc1 : b.ct + 1 = c1) :
    Calls Try.prog 12 #[ptr G, .int .u64 un] W fun e w' => e = .returned (.tuple #[lv c1 (fetchJ b).f0 (us + 1) un, .int .i64 0]) ∧ Aside0 (BI N X w' G (fetchB b un) ∧ Fr (KX N X) W w') := by
  obtain ⟨⟨B, T, mj, ma, mo, h1⟩, hI⟩ := h
  obtain ⟨hxm, j, hj, hji, hjc, hjs, hjk⟩ := hI.first h0
  have hju : j.us = us := by rw [← hus]; unfold usedOf; rw [hjk]; rfl
  have hok := (hI.ok j hj).2
  have hct0 := hI.ct
  have hjw : (Lit.int .i64 (fetchJ b).f0).wf = true := by rw [← hji]; exact hI.wf j hj
  have hnl : (fetchJ b).f0 ∉ b.Ls.map gjo := by rw [← hji]; exact hI.no_lease hj (by omega)
  have hnn : c1 ∉ b.Ls.map gno := by
    intro hx
    obtain ⟨g, hg, e⟩ := List.mem_map.1 hx
    have := (hI.g g hg).2.1
    have e : g.n = c1 := e
    omega
  have hll := hI.llen
  have hle := hI.le
  have hrm := hI.rm
  have hlm : b.Js.length < maxLen := by unfold maxLen; omega
  have hll2 : b.Ls.length ≤ 1000000 := by omega
  have hl90 : b.L.length ≤ 90000 := by have := hI.len; omega
  have hS : S b.tr 1 j.us 1 = (2, us + 1, true) := by rw [← hju]; exact S_fetch hI.tr (by omega)
  have hw : IntKind.i64.wrap (b.ct + 1) = c1 := by rw [i64_w, hc1]; unfold wrap64; omega
  have hIF := Aside0.mk (hI.fetch h0 un)
  have hcw : (Lit.int .i64 c1).wf = true := Go.WalkArith.wf_i64 (by omega)
  have hb1 : Below W.heap.size W (W.alloc zl) := below_alloc (Below.refl _ _) _
  have h2 := h1.more (Y := fun k => k = W.heap.size) hb1 (fun k hk => ⟨Nat.le_of_eq hk.symm, by rw [hk]; simp⟩)
  have c0 := h2.c0
  obtain ⟨x, hx0⟩ : ∃ x, fetchJ b = x := ⟨_, rfl⟩
  have htk := take_I h2.q h0 hl90 c1 hw x hx0 (removeL b.ag b.L 0) rfl
  have hbox := blk_new W zl
  have H2 := Aside0.mk h2
  have hb1 := Aside0.mk hb1
  have HX := Aside0.mk hbox
  have HJ := Aside0.mk (And.intro hj (And.intro hji (And.intro hjs hjk)))
  have HN := Aside0.mk (And.intro hnl (And.intro hnn (And.intro hct0 (And.intro hct (And.intro hlm hll2)))))
  have HS := Aside0.mk hS
  have HC := Aside0.mk (And.intro hc1 hcw)
  have HU := Aside0.mk (And.intro hus hju)
  have HW := Aside0.mk hjw
  have HI := Aside0.mk hI
  have hX0 := Aside0.mk hx0
  have key : Aside0 (∀ w', Aside0 (BI N X w' G (fetchB b un) ∧ Fr (KX N X) W w') → Aside0 (BI N X w' G (fetchB b un) ∧ Fr (KX N X) W w')) := ⟨fun _ h => h⟩
  rw [hx0]
  clear h1 hI hxm hj hji hjc hjs hjk hju hok hct0 hjw hnl hnn hll hle hrm hlm hll2 hl90 hS hw hcw h2 hbox h0 hct hus hc1 hx0
  go_enter Try.func12, Try.ntmps12
  go_upto_region 6 with (go_at_call 36; refine htk.mono ?_; clear htk; rintro e w1 ⟨rfl, hq1, hf1⟩)
  generalize hw2 : w1.alloc (.cells #[.int .i64 x.f0, .int .i64 x.f1, .int .i64 x.f2] 77) = w2
  have hb2 : Below w1.heap.size w1 w2 := by rw [← hw2]; exact below_alloc (Below.refl _ _) _
  have hy2 : w2.heap[w1.heap.size]? = some (.cells #[.int .i64 x.f0, .int .i64 x.f1, .int .i64 x.f2] 77 (0, 0)) := by rw [← hw2]; exact blk_new _ _
  obtain ⟨H3', hF3⟩ := H2.out.queue hq1 hf1
  have H3 := H3'.step hb2
  have hjw : (Lit.int .i64 x.f0).wf = true := by rw [← hX0.out]; exact HW.out
  have hjk : lk jid b.Js x.f0 = some j := by rw [← hX0.out]; exact HJ.out.2.2.2
  have hst := step_go H3 x.f0 1 hjw (jc j) (by show (lk jid b.Js x.f0).map jc = _; rw [hjk]; rfl) 2 (us + 1) (by rw [show (jc j).st = 1 from HJ.out.2.2.1]; exact HS.out) (by decide) (by decide) HN.out.2.2.2.2.1
  have e0 := (blk_cell hy2 0).trans rfl
  have hml : mj < w1.heap.size := H3'.j.lt
  have hTl : T < w1.heap.size := H3'.t.lt
  have hal : ma < w1.heap.size := H3'.t.a.lt
  have hol : mo < w1.heap.size := H3'.t.o.lt
  have H3 := Aside0.mk H3
  have hF3 := Aside0.mk (hF3.trans (Fr.of_below hb2))
  clear hw2 hb2 c0 hq1 hf1 H3'
  go_upto_region 7 with (go_at_call 37; refine hst.mono ?_; clear hst; rintro e w3 ⟨rfl, hg3⟩)
  obtain ⟨H4, hF4⟩ := H3.out.open_ hg3.out.1 hg3.out.2
  have hy3 := (hg3.out.2.blk w1.heap.size (blk_lt hy2) (by show ¬ w1.heap.size = mj; omega)).trans hy2
  have hgr := grant_calls (H4.step (below_drew1 (Below.refl _ _))).t x.f0 un hjw (by rw [← hX0.out]; exact HN.out.1) c1 HC.out.1 HN.out.2.1 ⟨HN.out.2.2.1, by have := HN.out.2.2.2.1; omega⟩ HN.out.2.2.2.2.2
  have kp : Aside0 (∀ w', Fr (TF T ma mo) w3 w' → w'.cell? ⟨G, 3, none⟩ = some (ptr T) ∧ w'.cell? ⟨w1.heap.size, 0, none⟩ = some (.int .i64 x.f0)) := ⟨fun w' hf => ⟨hf.cell H4.c3 (by
      rintro (e | e | e)
      · exact H4.n3 e
      · exact H4.nga e.symm
      · exact H4.ngo e.symm), hf.cell ((blk_cell hy3 0).trans rfl) (by
      rintro (e | e | e)
      · have e : w1.heap.size = T := e
        omega
      · have e : w1.heap.size = ma := e
        omega
      · have e : w1.heap.size = mo := e
        omega)⟩⟩
  have H4 := Aside0.mk H4
  have hF4 := Aside0.mk (hF3.out.trans hF4)
  clear hg3 hy2 hy3 e0 hml hTl hal hol
  go_region_held3 (fun w' => w'.cell? ⟨G, 3, none⟩ = some (ptr T) ∧ w'.cell? ⟨w1.heap.size, 0, none⟩ = some (.int .i64 x.f0)) (first | exact kp.out _ (fr_drew _) | exact kp.out _ (fr_trans (fr_drew _) hg4.out.2)) (first | (go_at_call 38; refine hgr.mono ?_; clear hgr; rintro e w4 ⟨rfl, hg4⟩))
  obtain ⟨H5, hF5⟩ := (H4.out.step (below_drew1 (Below.refl _ _))).table hg4.out.1 hg4.out.2
  have hB5 : BI N (fun k => X k ∨ k = W.heap.size) w4 G (fetchB b un) := by
    refine ⟨⟨B, T, mj, ma, mo, ?_⟩, hIF.out⟩
    have h6 := H5.congr (f2 := fun z => (lk jid (fetchB b un).Js z).map jc) (c2 := (fetchB b un).Js.length) (Ls2 := (fetchB b un).Ls) (fun z => ?_) ?_ ?_
    · show RM N _ w4 G B T mj ma mo b.ag b.rm b.tr (b.ct + 1) (b.ct + 1) _ _ _ _
      rw [HC.out.1]
      exact h6
    · rw [show (fetchB b un).Js = setJ b.Js (fetchJ b).f0 2 (usedOf b (fetchJ b).f0 + 1) from rfl, HU.out.1, hX0.out]
      exact upd_setJ hjk z
    · exact (setJ_len _ _ _ _).symm
    · show b.Ls ++ _ = b.Ls ++ [⟨b.ct + 1, (fetchJ b).f0, un⟩]
      rw [HC.out.1, hX0.out]
  have hgl : lk gno (fetchB b un).Ls c1 = some ⟨c1, x.f0, un⟩ := by
    rw [show (fetchB b un).Ls = b.Ls ++ [⟨b.ct + 1, (fetchJ b).f0, un⟩] from rfl, HC.out.1, hX0.out]
    rw [lk_snoc (κ := gno) b.Ls ⟨c1, x.f0, un⟩ c1 HN.out.2.1]
    rw [if_pos rfl]
  have hus2 : usedOf (fetchB b un) x.f0 = us + 1 := by
    unfold usedOf
    rw [show (fetchB b un).Js = setJ b.Js (fetchJ b).f0 2 (usedOf b (fetchJ b).f0 + 1) from rfl, HU.out.1, hX0.out, lk_setJ, hjk]
    show (if j.id = x.f0 then (⟨j.id, j.cls, 2, us + 1⟩ : Jb) else j).us = us + 1
    rw [if_pos (lk_mem hjk).2]
  have hls := lease_yes hB5 c1 HC.out.2 ⟨c1, x.f0, un⟩ hgl (us + 1) hus2
  have hF5 := Aside0.mk (hF4.out.trans ((Fr.of_below (below_drew1 (Below.refl _ _))).trans hF5))
  have hB5 := Aside0.mk hB5
  clear hg4 H5 hgl hus2 kp
  go_upto_region 9 with (go_at_call 20; refine hls.mono ?_; clear hls; rintro e w5 ⟨rfl, hb5⟩)
  generalize hw6 : w5.alloc (.cells #[.int .i64 c1, .int .i64 x.f0, .int .i64 0, .int .i64 0, .int .i64 (us + 1), .int .u64 un] 33) = w6
  have hb6 : Below w5.heap.size w5 w6 := by rw [← hw6]; exact below_alloc (Below.refl _ _) _
  have hz6 : w6.heap[w5.heap.size]? = some (.cells #[.int .i64 c1, .int .i64 x.f0, .int .i64 0, .int .i64 0, .int .i64 (us + 1), .int .u64 un] 33 (0, 0)) := by rw [← hw6]; exact blk_new _ _
  have hbx5 := (hF5.out.blk W.heap.size (blk_lt HX.out) (fun e => e.2 (.inr rfl))).trans HX.out
  have hb46 := below_step hb5 hb6
  have hx2 := blk_below hbx5 hb46
  have s0 := (blk_cell hx2 0).trans rfl
  have f0 := blk_frozen hx2 0
  have s1 := (blk_cell hx2 1).trans rfl
  have f1 := blk_frozen hx2 1
  have s2 := (blk_cell hx2 2).trans rfl
  have f2 := blk_frozen hx2 2
  have s3 := (blk_cell hx2 3).trans rfl
  have f3 := blk_frozen hx2 3
  have s4 := (blk_cell hx2 4).trans rfl
  have f4 := blk_frozen hx2 4
  have s5 := (blk_cell hx2 5).trans rfl
  have f5 := blk_frozen hx2 5
  have z0 := (blk_cell hz6 0).trans rfl
  have z1 := (blk_cell hz6 1).trans rfl
  have z2 := (blk_cell hz6 2).trans rfl
  have z3 := (blk_cell hz6 3).trans rfl
  have z4 := (blk_cell hz6 4).trans rfl
  have z5 := (blk_cell hz6 5).trans rfl
  have hx2 := Aside0.mk hx2
  have H6 := Aside0.mk (hB5.out.step hb46)
  have hbe := Aside0.mk ((Fr.of_below hb1.out).trans ((hF5.out.weak (kx_sub (fun k hk => .inl hk))).trans (Fr.of_below hb46)))
  clear hw6 hb5 hb6 hz6 hbx5 hb46
  go_wp2
  have hE := fr_set6 w6 W.heap.size (.int .i64 c1) (.int .i64 x.f0) (.int .i64 0) (.int .i64 0) (.int .i64 (us + 1)) (.int .u64 un)
  exact fetch_ret (g := W.heap.size) rfl rfl (blk_put (blk_put (blk_put (blk_put (blk_put (blk_put hx2.out 0 _ rfl) 1 _ rfl) 2 _ rfl) 3 _ rfl) 4 _ rfl) 5 _ rfl) ⟨rfl, ⟨(H6.out.keep (hE.weak (fun k hk => .inr hk))).sub (fun k hk => .inl hk), Fr.then_ hbe.out hE (fun b hb => .inr (Nat.le_of_eq hb.symm))⟩⟩
end
end Go.Proofs.Ytfkebbkfmchnaaa.Bk
