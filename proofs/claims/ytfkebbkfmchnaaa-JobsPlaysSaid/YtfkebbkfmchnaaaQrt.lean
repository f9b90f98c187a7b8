/- The reference's Take as a call. Conditions: the queue lies in memory as told. -/
import Derived.Test.YtfkebbkfmchnaaaQrd
namespace Go.Proofs.Ytfkebbkfmchnaaa.Ln
open Go.RowKit Go.Proofs.Ytfkebbkfmchnaaa.PBase Go.Proofs.Ytfkebbkfmchnaaa.PRef Go.Proofs.Ytfkebbkfmchnaaa.Cat Go.Proofs.Ytfkebbkfmchnaaa.Heap Go.Proofs.YtfkebbkfmchnaaaW.PrintWords Go.Proofs.YtfkebbkfmchnaaaW.PrintLast Go.Proofs.YtfkebbkfmchnaaaW.PrintMore
set_option linter.unusedVariables false
theorem first_calls (ag : Int) (A : Option Addr) (c : Nat) (L : List S77) (n : Int) (W : World) (hC : Kd.C k77 W A L.length L) (hc : L.length ≤ c) (hl : L.length ≤ 1000) (hn : fst ag L 0 L = n) : Calls Try.prog 63 #[.int .i64 ag, .slice A L.length c] W fun e w' => e = .returned (.int .i64 n) ∧ Below W.heap.size W w' := by
  subst hn
  exact remontoirref08_First.calls (L.length + 2 + L.length) ag A c L _ W hC hc (ref_first ag L (by omega))
theorem rtake_ret {Q : Ending → World → Prop} {tmps : Array Value} {W : World} {x : S77} {e : Int} {g : Nat} (hg : tmps.getD 2 undef = .pointer (some ⟨g, 0, none⟩)) (he : tmps.getD 3 undef = .int .i64 e) (hb : W.heap[g]? = some (.cells #[.int .i64 x.f0, .int .i64 x.f1, .int .i64 x.f2] 77 (0, 0))) (hQ : Q (.returned (.tuple #[wv x, .int .i64 e])) W) : bodyPost Try.prog Try.f45 Q Exit.ret { tmps := tmps, defers := [] } W :=
  bodyPost_ret (v := .tuple #[wv x, .int .i64 e]) (by rw [← he]; exact results_ct (fn := Try.f45) rfl tmps W g 77 _ (0, 0) _ hg hb Try.underlying77 rfl (by kernel_rfl)) rfl hQ
section
variable {N : Nat} {w : World} {R : RK} {v : Value} {ag rm ct : Int} {L : List S77}
theorem RS.setCt (h : RS N w R v ag rm ct L) (ct1 : Int) : RS N (w.setCell ⟨R, 2, none⟩ (.int .i64 ct1)) R v ag rm ct1 L :=
  ⟨RK.s2 h.g _, Kd.R_kept h.r (S := fun k => k = R) ⟨by simp [World.setCell], fun i hi hn => Below.heap_setCell w ⟨R, 2, none⟩ _ i hn⟩ (fun k hk => hk.2), h.nr⟩
set_option maxHeartbeats 4000000 in
set_option maxRecDepth 100000 in
theorem rtake_none (h : RS N w R v ag rm ct L) (hfst : fst ag L 0 L = -1) (hl : L.length ≤ 1000) : Calls Try.prog 45 #[.pointer (some ⟨R, 0, none⟩)] w fun e w' => e = .returned (.tuple #[wv z77, .int .i64 12]) ∧ Aside0 (RGo N w R v w' ag rm ct L) := by
  replace hfst := Aside0.mk hfst
  have H := Aside0.mk h
  obtain ⟨A, c, rfl, hc, hC⟩ := Kd.R_reads h.r
  have HC := Aside0.mk hC
  have Hc := Aside0.mk hc
  clear hc hC
  clear h
  go_enter Try.func45, Try.ntmps45
  go_wp2_with (first
    | ((with_reducible refine gate_dst (N := 2) rfl ?_); refine box_event ?hg (N := 2) ?hd (cs := #[.int .i64 0, .int .i64 0, .int .i64 0]) (t := 77) ?hr ?_; (case hd => rfl); (case hg => rfl); (case hr => first | (go_simp; done) | (go_simp; rfl)); intro g hg w1 hbox hb; have hge := Aside0.mk (Nat.le_of_eq hg.symm : w.heap.size ≤ g); clear hg; have HBX := Aside0.mk hbox; have HB := Aside0.mk hb; clear hbox hb))
  have HM := Aside0.mk (H.out.step HB.out)
  have c0 : w1.cell? ⟨R, 0, none⟩ = some (.int .i64 ag) := (blk_cell HM.out.g 0).trans (RK.c0 _ _ _ _ _)
  have c3 : w1.cell? ⟨R, 3, none⟩ = some (.slice A L.length c) := (blk_cell HM.out.g 3).trans (RK.c3 _ _ _ _ _)
  have hlt := blk_lt HM.out.g
  have kp : Aside0 (∀ w', Below w1.heap.size w1 w' → w'.cell? ⟨R, 0, none⟩ = some (.int .i64 ag) ∧ w'.cell? ⟨R, 3, none⟩ = some (.slice A L.length c)) := ⟨fun w' hb => ⟨(hb.cell (p := ⟨R, 0, none⟩) hlt).trans c0, (hb.cell (p := ⟨R, 3, none⟩) hlt).trans c3⟩⟩
  have hbD := Aside0.mk (below_drew1 (Below.refl w1.heap.size w1))
  have HC1 := Aside0.mk (Kd.C_below HC.out (below_step HB.out hbD.out))
  clear hlt
  go_region_held3 (fun w' => w'.cell? ⟨R, 0, none⟩ = some (.int .i64 ag) ∧ w'.cell? ⟨R, 3, none⟩ = some (.slice A L.length c)) (first | go_keep | exact kp.out _ hbD.out | exact kp.out _ (below_step hbD.out hb8)) ((go_at_call 63; refine (first_calls ag A c L (-1) _ HC1.out Hc.out hl hfst.out).mono ?_; rintro e w8 ⟨rfl, hb8⟩))
  have hb9 := Aside0.mk (below_step hbD.out hb8)
  have hbox8 := Aside0.mk (blk_below HBX.out hb9.out)
  have hs0 := (blk_cell hbox8.out 0).trans rfl
  have hs1 := (blk_cell hbox8.out 1).trans rfl
  have hs2 := (blk_cell hbox8.out 2).trans rfl
  have hf0 := blk_frozen hbox8.out 0
  have hf1 := blk_frozen hbox8.out 1
  have hf2 := blk_frozen hbox8.out 2
  go_wp2
  have hbT := Aside0.mk (below_step HB.out hb9.out)
  exact rtake_ret (x := z77) rfl rfl (blk_put (blk_put (blk_put hbox8.out 0 _ rfl) 1 _ rfl) 2 _ rfl) ⟨rfl, ⟨_, H.out.step (below_set (below_set (below_set hbT.out hge.out) hge.out) hge.out), Fr.of_below (below_set (below_set (below_set hbT.out hge.out) hge.out) hge.out), .inl rfl⟩⟩
set_option maxHeartbeats 4000000 in
set_option maxRecDepth 100000 in
theorem rtake_yes (h : RS N w R v ag rm ct L) (k : Nat) (hk : k < L.length) (hfst : fst ag L 0 L = (k : Int)) (x : S77) (hx : L[k] = x) (hl : L.length ≤ 1000) (ct1 : Int) (hct : IntKind.i64.wrap (ct + 1) = ct1) : Calls Try.prog 45 #[.pointer (some ⟨R, 0, none⟩)] w fun e w' => e = .returned (.tuple #[wv x, .int .i64 0]) ∧ Aside0 (RGo N w R v w' ag rm ct1 (rdropL L x.f0)) := by
  replace hfst := Aside0.mk hfst
  have H := Aside0.mk h
  obtain ⟨A, c, rfl, hc, hC⟩ := Kd.R_reads h.r
  obtain ⟨ad, e1, _, _, _⟩ := at_T77 hC (k : Int) (by omega) (by omega)
  subst e1
  have HC := Aside0.mk hC
  have Hc := Aside0.mk hc
  have hxr : rd_T77 L (k : Int) = x := by rw [rd_get hk]; exact hx
  replace hxr := Aside0.mk hxr
  have HCT := Aside0.mk hct
  have hwR := Aside0.mk (blk_lt h.g)
  have hvl : Aside0 (∀ b, (Value.slice (some ad) L.length c).ownBlock = some b → b < w.heap.size) := ⟨fun b hb => own_lt (own_of_R h.r) b hb⟩
  have hk0 : ¬ (k : Int) < 0 := by omega
  have p1 := eq_true (show 0 ≤ (k : Int) by omega)
  have p2 := eq_true (show (k : Int) < (L.length : Int) by omega)
  have hK := Aside0.mk hk
  clear hc hC h hx hk
  go_enter Try.func45, Try.ntmps45
  go_wp2_with (first
    | ((with_reducible refine gate_dst (N := 2) rfl ?_); refine box_event ?hg (N := 2) ?hd (cs := #[.int .i64 0, .int .i64 0, .int .i64 0]) (t := 77) ?hr ?_; (case hd => rfl); (case hg => rfl); (case hr => first | (go_simp; done) | (go_simp; rfl)); intro g hg w1 hbox hb; have hge := Aside0.mk (Nat.le_of_eq hg.symm : w.heap.size ≤ g); clear hg; have HBX := Aside0.mk hbox; have HB := Aside0.mk hb; clear hbox hb))
  have HM := Aside0.mk (H.out.step HB.out)
  have c0 : w1.cell? ⟨R, 0, none⟩ = some (.int .i64 ag) := (blk_cell HM.out.g 0).trans (RK.c0 _ _ _ _ _)
  have c3 : w1.cell? ⟨R, 3, none⟩ = some (.slice (some ad) L.length c) := (blk_cell HM.out.g 3).trans (RK.c3 _ _ _ _ _)
  have hlt := blk_lt HM.out.g
  have kp : Aside0 (∀ w', Below w1.heap.size w1 w' → w'.cell? ⟨R, 0, none⟩ = some (.int .i64 ag) ∧ w'.cell? ⟨R, 3, none⟩ = some (.slice (some ad) L.length c)) := ⟨fun w' hb => ⟨(hb.cell (p := ⟨R, 0, none⟩) hlt).trans c0, (hb.cell (p := ⟨R, 3, none⟩) hlt).trans c3⟩⟩
  have hbD := Aside0.mk (below_drew1 (Below.refl w1.heap.size w1))
  have HC1 := Aside0.mk (Kd.C_below HC.out (below_step HB.out hbD.out))
  clear hlt
  go_region_held3 (fun w' => w'.cell? ⟨R, 0, none⟩ = some (.int .i64 ag) ∧ w'.cell? ⟨R, 3, none⟩ = some (.slice (some ad) L.length c)) (first | go_keep | exact kp.out _ hbD.out | exact kp.out _ (below_step hbD.out hb8)) ((go_at_call 63; refine (first_calls ag (some ad) c L k _ HC1.out Hc.out hl hfst.out).mono ?_; rintro e w8 ⟨rfl, hb8⟩))
  have hb9 := Aside0.mk (below_step hbD.out hb8)
  have HBX8 := Aside0.mk (blk_below HBX.out hb9.out)
  have hBT := Aside0.mk (below_step HB.out hb9.out)
  have HM8 := Aside0.mk (H.out.step hBT.out)
  clear c0 c3 kp hbD HC1 hb8 HM
  have c3 : w8.cell? ⟨R, 3, none⟩ = some (.slice (some ad) L.length c) := (blk_cell HM8.out.g 3).trans (RK.c3 _ _ _ _ _)
  obtain ⟨ad', e2, hy0, hy1, hy2⟩ := at_T77 (Kd.C_below HC.out hBT.out) (k : Int) (by omega) (by have := hK.out; omega)
  cases e2
  rw [hxr.out, Int.toNat_natCast] at hy0 hy1 hy2
  have hgR : Aside0 (g ≠ R) := ⟨by have := hge.out; have := hwR.out; omega⟩
  have hg8 := Aside0.mk (blk_lt HBX8.out)
  have h8R : Aside0 (w8.heap.size ≠ R) := ⟨by have := hBT.out.size; have := hwR.out; omega⟩
  have hbA := Aside0.mk (below_alloc (Below.refl w8.heap.size w8) (.cells #[.int .i64 x.f0, .int .i64 x.f1, .int .i64 x.f2] 77))
  go_wp2_with (first
    | (go_at_call 51; have hT := rdrop_calls (HM8.out.step hbA.out) x.f0 hl; refine hT.mono ?_; clear hT; rintro e w10 ⟨rfl, hz⟩; clear c3 hy0 hy1 hy2; obtain ⟨v', hRS, hF, hat⟩ := hz.out; have hRS := Aside0.mk hRS; have hF := Aside0.mk hF; have hX10 := Aside0.mk ((hF.out.blk w8.heap.size (blk_lt (blk_new w8 _)) h8R.out).trans (blk_new w8 _)); have hG10 := Aside0.mk ((hF.out.blk g (Nat.lt_of_lt_of_le hg8.out hbA.out.size) hgR.out).trans (blk_below HBX8.out hbA.out)); have d2 : w10.cell? ⟨R, 2, none⟩ = some (.int .i64 ct) := (blk_cell hRS.out.g 2).trans (RK.c2 _ _ _ _ _); have z2 := blk_frozen hRS.out.g 2; have x0 := (blk_cell hX10.out 0).trans rfl; have x1 := (blk_cell hX10.out 1).trans rfl; have x2 := (blk_cell hX10.out 2).trans rfl; have hs0 := (blk_cell hG10.out 0).trans rfl; have hs1 := (blk_cell hG10.out 1).trans rfl; have hs2 := (blk_cell hG10.out 2).trans rfl; have hf0 := blk_frozen hG10.out 0; have hf1 := blk_frozen hG10.out 1; have hf2 := blk_frozen hG10.out 2; have n1 := hgR.out; have n2 := hgR.out.symm; have n3 := h8R.out; have n4 := h8R.out.symm; have hct := HCT.out))
  have hset : Fr (fun b => b = g) (w10.setCell ⟨R, 2, none⟩ (.int .i64 ct1)) ((((w10.setCell ⟨R, 2, none⟩ (.int .i64 ct1)).setCell ⟨g, 0, none⟩ (.int .i64 x.f0)).setCell ⟨g, 1, none⟩ (.int .i64 x.f1)).setCell ⟨g, 2, none⟩ (.int .i64 x.f2)) :=
    Fr.then_ (Fr.then_ (Fr.set _ g 0 _) (Fr.set _ g 1 _) (fun _ h => .inl h)) (Fr.set _ g 2 _) (fun _ h => .inl h)
  have hown : ∀ b, v'.ownBlock = some b → ¬ b = g := by
    intro b hb e
    rcases hat with rfl | hat
    · have := hvl.out b hb
      have := hge.out
      omega
    · have := hat b hb
      have := hbA.out.size
      have := hg8.out
      omega
  have hw9 := Aside0.mk (below_step hBT.out hbA.out)
  exact rtake_ret (x := x) rfl rfl (blk_put (blk_put (blk_put (blk_far hG10.out (p := ⟨R, 2, none⟩) n1 _) 0 _ rfl) 1 _ rfl) 2 _ rfl)
    ⟨rfl, ⟨v', (hRS.out.setCt ct1).keep hset (fun e => n1 e.symm) hown, Fr.then_ (Fr.then_ (Fr.then_ (Fr.of_below hw9.out) hF.out (fun _ h => .inl h)) (Fr.set w10 R 2 _) (fun _ h => .inl h)) hset (fun b hb => .inr (hb ▸ hge.out)), hat.imp id (fun h b hb => Nat.le_trans hw9.out.size (h b hb))⟩⟩
end
end Go.Proofs.Ytfkebbkfmchnaaa.Ln
