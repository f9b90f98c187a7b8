/- Take and List as calls. Conditions: the queue lies in memory as told. -/
import Derived.Test.YtfkebbkfmchnaaaQm
namespace Go.Proofs.Ytfkebbkfmchnaaa.Ln
open Go.RowKit Go.Proofs.Ytfkebbkfmchnaaa.PBase Go.Proofs.Ytfkebbkfmchnaaa.Cat Go.Proofs.Ytfkebbkfmchnaaa.Heap Go.Proofs.YtfkebbkfmchnaaaW.PrintWords Go.Proofs.YtfkebbkfmchnaaaW.PrintLast Go.Proofs.YtfkebbkfmchnaaaW.PrintMore
theorem take_ret {Q : Ending → World → Prop} {tmps : Array Value} {W : World} {x : S77} {e : Int} {g : Nat} (hg : tmps.getD 2 undef = .pointer (some ⟨g, 0, none⟩)) (he : tmps.getD 3 undef = .int .i64 e) (hb : W.heap[g]? = some (.cells #[.int .i64 x.f0, .int .i64 x.f1, .int .i64 x.f2] 77 (0, 0))) (hQ : Q (.returned (.tuple #[wv x, .int .i64 e])) W) : bodyPost Try.prog Try.f36 Q Exit.ret { tmps := tmps, defers := [] } W :=
  bodyPost_ret (v := .tuple #[wv x, .int .i64 e]) (by rw [← he]; exact results_ct (fn := Try.f36) rfl tmps W g 77 _ (0, 0) _ hg hb Try.underlying77 rfl (by kernel_rfl)) rfl hQ
set_option maxHeartbeats 4000000 in
set_option maxRecDepth 100000 in
theorem take_nil (W : World) : Calls Try.prog 36 #[.pointer none] W fun e w' => e = .returned (.tuple #[wv z77, .int .i64 1]) ∧ Below W.heap.size W w' := by
  go_enter Try.func36, Try.ntmps36
  go_wp2
  exact take_ret (x := z77) rfl rfl (blk_new _ _) ⟨rfl, below_alloc (Below.refl _ _) _⟩
set_option maxHeartbeats 4000000 in
set_option maxRecDepth 100000 in
theorem take_empty {W : World} {base B : Nat} {ag rm ct : Int} {v : Value} (h : QS W base B ag v rm ct []) :
    Calls Try.prog 36 #[.pointer (some ⟨B, 0, none⟩)] W fun e w' => e = .returned (.tuple #[wv z77, .int .i64 12]) ∧ QGo W base B v w' ag rm ct [] := by
  go_enter Try.func36, Try.ntmps36
  go_wp2_with (first
    | ((with_reducible refine gate_dst (N := 2) rfl ?_); refine box_event ?hg (N := 2) ?hd (cs := #[.int .i64 0, .int .i64 0, .int .i64 0]) (t := 77) ?hr ?_; (case hd => rfl); (case hg => rfl); (case hr => first | (go_simp; done) | (go_simp; rfl)); intro g hg w1 hbox hb; have hq := qlen_calls (h.step hb); rw [List.length_nil] at hq; have hge : W.heap.size ≤ g := Nat.le_of_eq hg.symm; clear hg)
    | (go_at_call 58; refine hq.mono ?_; rintro e w8 ⟨rfl, hb8⟩; have hbox8 := Aside0.mk (blk_below hbox hb8); clear hbox; have hs0 := (blk_cell hbox8.out 0).trans rfl; have hs1 := (blk_cell hbox8.out 1).trans rfl; have hs2 := (blk_cell hbox8.out 2).trans rfl; have hf0 := blk_frozen hbox8.out 0; have hf1 := blk_frozen hbox8.out 1; have hf2 := blk_frozen hbox8.out 2))
  exact take_ret (x := z77) rfl rfl (blk_put (blk_put (blk_put hbox8.out 0 _ rfl) 1 _ rfl) 2 _ rfl) ⟨rfl, h.go (below_set (below_set (below_set (below_step hb hb8) hge) hge) hge)⟩
theorem QS.keep {F : Nat → Prop} {W W' : World} {base B : Nat} {ag rm ct : Int} {v : Value} {L : List S77} (h : QS W base B ag v rm ct L) (hF : Fr F W W') (hn : ∀ k, F k → ¬ QF B v k) : QS W' base B ag v rm ct L := by
  refine ⟨(hF.blk B h.lt (fun e => hn B e (.inl rfl))).trans h.blk, h.lb, ?_⟩
  obtain ⟨h1, h2⟩ := h.own
  refine ⟨h1, ?_⟩
  rcases h2 with h2 | ⟨g, cap, cells, rfl, hgb, hgc, hr⟩
  · exact .inl h2
  · exact .inr ⟨g, cap, cells, rfl, hgb, (hF.blk g (Array.getElem?_eq_some_iff.1 hgc).1 (fun e => hn g e (.inr rfl))).trans hgc, hr⟩
theorem Fr.set (W : World) (g j : Nat) (u : Value) : Fr (fun k => k = g) W (W.setCell ⟨g, j, none⟩ u) := ⟨rfl, rfl, rfl, by simp [World.setCell], fun k _ hn => Below.heap_setCell W ⟨g, j, none⟩ u k hn⟩
theorem QS.setCt {W : World} {base B : Nat} {ag rm ct : Int} {v : Value} {L : List S77} (h : QS W base B ag v rm ct L) (ct1 : Int) : QS (W.setCell ⟨B, 3, none⟩ (.int .i64 ct1)) base B ag v rm ct1 L := by
  refine ⟨blk_set h.blk 3 _, h.lb, ?_⟩
  exact own_of_R (Kd.R_set (R_of_own h.own) h.blk (by decide) 3 _)
set_option maxHeartbeats 4000000 in
set_option maxRecDepth 100000 in
theorem take_calls {W : World} {base B : Nat} {ag rm ct : Int} {v : Value} {L : List S77} (h : QS W base B ag v rm ct L) (h0 : 0 < L.length) (hl : L.length ≤ 90000) (ct1 : Int) (hct : IntKind.i64.wrap (ct + 1) = ct1) :
    Calls Try.prog 36 #[.pointer (some ⟨B, 0, none⟩)] W fun e w' => e = .returned (.tuple #[wv (Heap.g z77 L 0), .int .i64 0]) ∧ QGo W base B v w' ag rm ct1 (removeL ag L 0) := by
  obtain ⟨Q, hQe⟩ : ∃ Q : Int, (L.length : Int) = Q := ⟨_, rfl⟩
  have hQ0 : (Q == 0) = false := by rw [beq_eq_false_iff_ne]; omega
  have hQp : 0 < Q := by omega
  have HE := Aside0.mk hQe
  have HQ := Aside0.mk h
  have hBlt := h.lt
  obtain ⟨gr, cap, hv, _, hgl, _⟩ := Kd.R_form (R_of_own h.own) h0
  subst hv
  have hLi : (0 : Int) < (L.length : Int) := by omega
  have hx : ∀ w8, Below W.heap.size W w8 → w8.cell? ⟨gr, 0, none⟩ = some (.int .i64 (Heap.g z77 L 0).f0) ∧ w8.cell? ⟨gr, 1, none⟩ = some (.int .i64 (Heap.g z77 L 0).f1) ∧ w8.cell? ⟨gr, 2, none⟩ = some (.int .i64 (Heap.g z77 L 0).f2) := by
    intro w8 hb8
    have hC := (Kd.R_reads' (R_of_own (h.step hb8).own)).2.2
    obtain ⟨ad, e1, hx0, hx1, hx2⟩ := at_T77 hC 0 (by omega) (by omega)
    injection e1 with e1
    subst e1
    exact ⟨hx0, hx1, hx2⟩
  have hcb := fun w8 hb8 => (h.step (W1 := w8) hb8).cell 1
  have HX := Aside0.mk hx
  have HCB := Aside0.mk hcb
  have hrB : gr ≠ B := fun e => h.ne (by simp [Value.ownBlock, e])
  clear hQe h hx hcb
  have hnq : ∀ k, W.heap.size ≤ k → ¬ QF B (.slice (some ⟨gr, 0, none⟩) L.length cap) k := by
    rintro k hk (e | e)
    · omega
    · have : gr = k := by simpa [Value.ownBlock] using e
      omega
  have HNQ := Aside0.mk hnq
  have HBL := Aside0.mk hBlt
  clear hnq hgl hBlt
  go_enter Try.func36, Try.ntmps36
  go_wp2_with (first
    | ((with_reducible refine gate_dst (N := 2) rfl ?_); refine box_event ?hg (N := 2) ?hd (cs := #[.int .i64 0, .int .i64 0, .int .i64 0]) (t := 77) ?hr ?_; (case hd => rfl); (case hg => rfl); (case hr => first | (go_simp; done) | (go_simp; rfl)); intro g hg w1 hbox hb; have hq := qlen_calls (HQ.out.step hb); rw [HE.out] at hq; have hge := Aside0.mk (Nat.le_of_eq hg.symm : W.heap.size ≤ g); clear hg; have HBX := Aside0.mk hbox; clear hbox)
    | (go_at_call 58; refine hq.mono ?_; rintro e w8 ⟨rfl, hb8⟩; clear hq; have HBX8 := Aside0.mk (blk_below HBX.out hb8); have hb9 := Aside0.mk (below_step hb hb8); clear hb hb8; have c1 := (HCB.out w8 hb9.out).trans rfl; have c2 := HX.out w8 hb9.out; obtain ⟨c20, c21, c22⟩ := c2)
    | (go_at_call 60; refine (heap_remove_calls (HQ.out.step (below_alloc hb9.out _)) 0 h0 (by omega)).mono ?_; rintro e w9 ⟨⟨q, rfl⟩, v9, hQ9, hF9, hA9⟩; have HG8 := Aside0.mk (blk_lt HBX8.out); have HG := Aside0.mk ((hF9.blk g (Nat.lt_of_lt_of_le HG8.out (below_alloc (Below.refl w8.heap.size w8) _).size) (HNQ.out g hge.out)).trans (((below_alloc (Below.refl w8.heap.size w8) _).block g HG8.out).trans HBX8.out)); have HG4 := Aside0.mk ((hF9.blk w8.heap.size (blk_lt (blk_new w8 _)) (HNQ.out _ hb9.out.size)).trans (blk_new w8 _)); have HF9 := Aside0.mk (Fr.then_ (Fr.of_below (below_alloc hb9.out _)) hF9 (fun _ h => .inl h)); have HQ9 := Aside0.mk hQ9; have hn1 : g ≠ w8.heap.size := Nat.ne_of_lt HG8.out; have hn2 : B ≠ w8.heap.size := Nat.ne_of_lt (Nat.lt_of_lt_of_le HBL.out hb9.out.size); have hn3 : B ≠ g := Nat.ne_of_lt (Nat.lt_of_lt_of_le HBL.out hge.out); clear hQ9 hF9; generalize w8.heap.size = g4 at hn1 hn2 HG4 ⊢; have hs3 := (HQ9.out.cell 3).trans rfl; have hf3 := blk_frozen HQ9.out.blk 3; have ha0 := (blk_cell HG4.out 0).trans rfl; have ha1 := (blk_cell HG4.out 1).trans rfl; have ha2 := (blk_cell HG4.out 2).trans rfl; have hs0 := (blk_cell HG.out 0).trans rfl; have hs1 := (blk_cell HG.out 1).trans rfl; have hs2 := (blk_cell HG.out 2).trans rfl; have hf0 := blk_frozen HG.out 0; have hf1 := blk_frozen HG.out 1; have hf2 := blk_frozen HG.out 2))
  have hset : Fr (fun k => k = g) (w9.setCell ⟨B, 3, none⟩ (.int .i64 ct1)) ((((w9.setCell ⟨B, 3, none⟩ (.int .i64 ct1)).setCell ⟨g, 0, none⟩ (.int .i64 (Heap.g z77 L 0).f0)).setCell ⟨g, 1, none⟩ (.int .i64 (Heap.g z77 L 0).f1)).setCell ⟨g, 2, none⟩ (.int .i64 (Heap.g z77 L 0).f2)) :=
    Fr.then_ (Fr.then_ (Fr.set _ g 0 _) (Fr.set _ g 1 _) (fun _ h => .inl h)) (Fr.set _ g 2 _) (fun _ h => .inl h)
  exact take_ret (x := Heap.g z77 L 0) rfl rfl (blk_put (blk_put (blk_put (blk_far HG.out (p := ⟨B, 3, none⟩) hn3.symm _) 0 _ rfl) 1 _ rfl) 2 _ rfl)
    ⟨rfl, v9, (HQ9.out.setCt ct1).keep hset (fun k hk q => HNQ.out k (hk ▸ hge.out) (qf_same hA9 k q)),
      Fr.then_ (Fr.then_ HF9.out Fr.put (fun _ h => .inl h)) hset (fun k hk => .inr (hk ▸ hge.out)), .inl hA9⟩
end Go.Proofs.Ytfkebbkfmchnaaa.Ln
