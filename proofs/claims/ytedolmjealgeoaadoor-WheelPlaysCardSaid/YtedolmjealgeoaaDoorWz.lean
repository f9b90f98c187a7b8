/- The reference's wheel: Advance as a call. Conditions: it lies in memory as told. -/
import Derived.Test.YtedolmjealgeoaaDoorWy
set_option linter.unusedVariables false
namespace Go.Proofs.YtedolmjealgeoaaDoor.Wh
open Go.RowKit Go.Maps Go.Proofs.YtedolmjealgeoaaDoor.PBase Go.Proofs.YtedolmjealgeoaaDoor.Cat Go.Proofs.YtedolmjealgeoaaDoor.Rg Go.Proofs.YtedolmjealgeoaaDoor.Tk Go.Proofs.YtedolmjealgeoaaDoorW.PrintWords Go.Proofs.YtedolmjealgeoaaDoorW.PrintLast Go.Proofs.YtedolmjealgeoaaDoorW.PrintMore
section
variable {N : Nat} {w w' : World} {R : Nat} {v : Value} {now : Int} {L : List S31}
theorem RWo.trans {w2 : World} {t2 : Int} {L2 : List S31} {v1 : Value} (hf : Fr (X2 R v) w w') (hat : v1.ownBlock = v.ownBlock ∨ ∀ b, v1.ownBlock = some b → w.heap.size ≤ b) (hg : RWo N w' R v1 w2 t2 L2) : RWo N w R v w2 t2 L2 := by
  obtain ⟨v2, k1, k2, k3⟩ := hg
  refine ⟨v2, k1, hf.then_ k2 (fun k hk => ?_), ?_⟩
  · rcases hk with rfl | hk
    · exact .inl (.inl rfl)
    · rcases hat with e | e
      · exact .inl (.inr (by rw [← e]; exact hk))
      · exact .inr (e k hk)
  · rcases k3 with e | e
    · rcases hat with e2 | e2
      · exact .inl (e.trans e2)
      · exact .inr (fun b hb => e2 b (by rw [← e]; exact hb))
    · exact .inr (fun b hb => Nat.le_trans hf.size (e b hb))
set_option maxHeartbeats 8000000 in
set_option maxRecDepth 100000 in
theorem wadv_over (h : RW N w R v now L) (un : U now) {n : Int} (hu : U n) (ho : ¬ now + n < 18446744073709551616) : Calls Tryd.prog 45 #[ptr R, .int .u64 n] w fun e w' => e = .returned (.tuple #[.slice none 0 0, .int .i64 14]) ∧ Below w.heap.size w w' := by
  have c1 : w.cell? ⟨R, 1, none⟩ = some (.int .u64 now) := (blk_cell h.g 1).trans rfl
  have hs := rsum un hu
  rw [if_neg ho] at hs
  have HS := Aside0.mk hs
  clear h un hu ho hs
  go_enter Tryd.func45, Tryd.ntmps45
  go_wp2_with (go_at_call 33; refine (remontoirref01_Sum.calls now n _ _ _ HS.out).mono ?_; rintro e w1 ⟨rfl, hb1⟩; have hb2 := Aside0.mk (below_step hb1 (below_alloc (Below.refl w1.heap.size w1) (.cells #[.int .u64 0, .bool false] 64))); have q1 : (w1.alloc (.cells #[.int .u64 0, .bool false] 64)).cell? ⟨w1.heap.size, 1, none⟩ = some (.bool false) := (blk_cell (blk_new w1 _) 1).trans rfl)
  go_ret2
  exact ⟨rfl, hb2.out⟩
set_option maxHeartbeats 8000000 in
set_option maxRecDepth 100000 in
theorem wadv_calls (h : RW N w R v now L) (hso : psort L = L) (hl : L.length ≤ 90000) (un : U now) {n t : Int} (hu : U n) (ho : now + n = t) (ht : U t) : Calls Tryd.prog 45 #[ptr R, .int .u64 n] w fun e w' => ∃ vo, e = .returned (.tuple #[vo, .int .i64 0]) ∧ Aside0 (Kd.R k31 31 w' w.heap.size (fun k => vo.ownBlock = some k) vo (dueT L t) ∧ RWo N w R v w' t (restT L t)) := by
  have c1 : w.cell? ⟨R, 1, none⟩ = some (.int .u64 now) := (blk_cell h.g 1).trans rfl
  have hs := rsum un hu
  rw [ho, if_pos ht.2] at hs
  have hnt : now ≤ t := by have := hu.1; omega
  have HS := Aside0.mk hs
  have H := Aside0.mk h
  have HSO := Aside0.mk hso
  have HNT := Aside0.mk hnt
  have HL := Aside0.mk hl
  have HRl : Aside0 (R < w.heap.size) := ⟨blk_lt h.g⟩
  have HVl : Aside0 (∀ k, v.ownBlock = some k → k < w.heap.size) := ⟨fun k hk => (h.lt k (.inr hk)).2⟩
  clear h hso un hu ho ht hs hnt hl
  go_enter Tryd.func45, Tryd.ntmps45
  go_upto_region 4 with (go_at_call 33; refine (remontoirref01_Sum.calls now n _ _ _ HS.out).mono ?_; rintro e w1 ⟨rfl, hb1⟩; have hg2 := Aside0.mk (blk_new w1 (.cells #[.int .u64 t, .bool true] 64)); have hb2 := Aside0.mk (below_step hb1 (below_alloc (Below.refl w1.heap.size w1) (.cells #[.int .u64 t, .bool true] 64))); have q1 : (w1.alloc (.cells #[.int .u64 t, .bool true] 64)).cell? ⟨w1.heap.size, 1, none⟩ = some (.bool true) := (blk_cell hg2.out 1).trans rfl)
  have hgW : Aside0 (w.heap.size ≤ w1.heap.size) := ⟨hb1.size⟩
  clear q1 hb1 c1
  generalize w1.alloc (.cells #[.int .u64 t, .bool true] 64) = w2 at hg2 hb2 ⊢
  generalize w1.heap.size = g at hg2 hgW ⊢
  have hM2 := Aside0.mk (H.out.step hb2.out)
  have hF0 : Aside0 (Fr (X2 R v) w w2) := ⟨Fr.of_below hb2.out⟩
  go_wp2
  go_loopg [7] L.length (fun gk v7 wr => ∃ (A P : List S31) (cur : Int) (v1 vo : Value), vo = v7 ∧ P.length ≤ gk ∧ Aside0 (A ++ P = L) ∧ Aside0 (∀ e ∈ A, e.f1 ≤ t) ∧ Aside0 (cur ≤ t) ∧ Aside0 (psort P = P) ∧ Aside0 (RW N wr R v1 cur P) ∧ Aside0 (Fr (X2 R v) w wr ∧ (v1.ownBlock = v.ownBlock ∨ ∀ b, v1.ownBlock = some b → w.heap.size ≤ b)) ∧ Aside0 (Kd.R k31 31 wr w.heap.size (fun k => vo.ownBlock = some k) vo A) ∧ Aside0 (∀ k, (k = g ∨ vo.ownBlock = some k) → ¬ X2 R v1 k) ∧ Aside0 (¬ vo.ownBlock = some g) ∧ Aside0 (wr.heap[g]? = some (.cells #[.int .u64 t, .bool true] 64 (0, 0))))
  case atStart => exact ⟨[], L, now, v, _, rfl, Nat.le_refl _, ⟨rfl⟩, ⟨fun e he => absurd he List.not_mem_nil⟩, HNT, HSO, hM2, ⟨hF0.out, .inl rfl⟩, ⟨Kd.R_nil _ _ _ _ _⟩, ⟨fun k hk e => by
    rcases hk with rfl | hk
    · rcases e with rfl | e
      · have := HRl.out; have := hgW.out; omega
      · have := HVl.out _ e; have := hgW.out; omega
    · cases hk⟩, ⟨fun e => by cases e⟩, hg2⟩
  case round =>
    obtain ⟨A, P, cur, v1, vo, rfl, hgk, hAP, hAt, hct, hPs, hM, hF, hR, hdis, hvg, hgb⟩ := hrel
    clear hM2 hF0 hg2 hb2
    have hlen := congrArg List.length hAP.out
    rw [List.length_append] at hlen
    have hL5 := HL.out
    have hAl : A.length ≤ 1000000 := by omega
    have hpop := Aside0.mk (wpop_calls hM.out hPs.out t (by omega))
    have q0 : wr.cell? ⟨g, 0, none⟩ = some (.int .u64 t) := (blk_cell hgb.out 0).trans rfl
    have HLN := Aside0.mk hlen
    clear hlen hL5
    go_upto_region 6 with (go_at_call 44; refine hpop.out.mono ?_; rintro e w3 ⟨x, more, cur2, P', rfl, hpg, hgo⟩)
    obtain ⟨v2, hM3, hF3, hat3⟩ := hgo.out
    have hRr3 := Kd.R_kept hR.out (S := X2 R v1) ⟨hF3.size, fun i hi hn => hF3.blk i hi hn⟩ (fun k hk => hdis.out k (.inr hk))
    have hgb3 := (hF3.blk g (blk_lt hgb.out) (hdis.out g (.inl rfl))).trans hgb.out
    have hx3 := blk_new w3 (.cells #[.int .i64 x.f0, .int .u64 x.f1] 31)
    have hbx := below_alloc (Below.refl w3.heap.size w3) (.cells #[.int .i64 x.f0, .int .u64 x.f1] 31)
    have hRW4 : Aside0 (RW N (w3.alloc (.cells #[.int .i64 x.f0, .int .u64 x.f1] 31)) R v2 cur2 P') := ⟨hM3.step hbx⟩
    have hF4 : Aside0 (Fr (X2 R v) w (w3.alloc (.cells #[.int .i64 x.f0, .int .u64 x.f1] 31)) ∧ (v2.ownBlock = v.ownBlock ∨ ∀ b, v2.ownBlock = some b → w.heap.size ≤ b)) := ⟨by
      refine ⟨(hF.out.1.then_ hF3 (fun k hk => ?_)).trans (Fr.of_below hbx), ?_⟩
      · rcases hk with rfl | hk
        · exact .inl (.inl rfl)
        · rcases hF.out.2 with e | e
          · exact .inl (.inr (by rw [← e]; exact hk))
          · exact .inr (e k hk)
      · rcases hat3 with e | e
        · rcases hF.out.2 with e2 | e2
          · exact .inl (e.trans e2)
          · exact .inr (fun b hb => e2 b (by rw [← e]; exact hb))
        · exact .inr (fun b hb => Nat.le_trans hF.out.1.size (e b hb))⟩
    have hR4 := Aside0.mk (Kd.R_below hRr3 hbx)
    have hbd := (Kd.R_bound hR.out).1
    have hdis4 : Aside0 (∀ k, (k = g ∨ vo.ownBlock = some k) → ¬ X2 R v2 k) := ⟨fun k hk e => by
      have h5 := hdis.out k hk
      rcases e with rfl | e
      · exact h5 (.inl rfl)
      · rcases hat3 with e2 | e2
        · exact h5 (.inr (by rw [← e2]; exact e))
        · have h6 := e2 k e
          rcases hk with rfl | hk
          · have := blk_lt hgb.out; omega
          · have := (hbd k hk).2.2.1; omega⟩
    have hgb4 := Aside0.mk (blk_below hgb3 hbx)
    have HX4 := Aside0.mk hx3
    have hgw3 : Aside0 (g < w3.heap.size) := ⟨blk_lt hgb3⟩
    have HXl : Aside0 (w3.heap.size < (w3.alloc (.cells #[.int .i64 x.f0, .int .u64 x.f1] 31)).heap.size ∧ ∀ k, X2 R v2 k → k < w3.heap.size) := ⟨blk_lt hx3, fun k hk => (hM3.lt k hk).2⟩
    clear hgo hM3 hF3 hat3 hRr3 hgb3 hx3 hbx hbd hM hF hR hdis hgb q0 hpop
    generalize w3.alloc (.cells #[.int .i64 x.f0, .int .u64 x.f1] 31) = w4 at hRW4 hF4 hR4 hgb4 HX4 HXl ⊢
    generalize w3.heap.size = gx at HX4 HXl hgw3 ⊢
    rcases hpg.out with ⟨x, P', e1, e2⟩ | hno
    · rw [hPs.out] at e1
      subst e1
      have hso2 : Aside0 (psort P' = P') := ⟨by
        have h5 : So (x :: P') := hPs.out ▸ psort_so (x :: P')
        exact psort_of (List.pairwise_cons.1 h5).2 (List.Perm.refl _)⟩
      have hxt := Aside0.mk e2
      have hgk2 : P'.length < gk := by rw [List.length_cons] at hgk; omega
      have y0 : w4.cell? ⟨gx, 0, none⟩ = some (.int .i64 x.f0) := (blk_cell HX4.out 0).trans rfl
      have y1 : w4.cell? ⟨gx, 1, none⟩ = some (.int .u64 x.f1) := (blk_cell HX4.out 1).trans rfl
      have hbn := below_alloc (Below.refl w4.heap.size w4) (.cells #[.int .i64 x.f0, .int .u64 x.f1] 31)
      have hW4 : w.heap.size ≤ w4.heap.size := hF4.out.1.size
      obtain ⟨va, wa, hrun, hRa, hfa, hat⟩ := app2_run (Kd.R_below hR4.out hbn) x 42 hAl ⟨w4.heap.size, 0, none⟩ 1 (C_one (w := w4) x) (Nat.le_trans hW4 hbn.size)
      have hlt4 := hRW4.out.lt
      have hbo := (Kd.R_bound hR4.out).1
      have hRa2 := Aside0.mk (Kd.R_mono (Kd.R_tight2 rfl hRa) (fun k hk => (hk.1.symm : va.ownBlock = some k)))
      have hMa := Aside0.mk ((hRW4.out.step hbn).keep hfa (fun k hk e => hdis4.out k (.inr e) hk))
      have hFa : Aside0 (Fr (X2 R v) w wa ∧ (v2.ownBlock = v.ownBlock ∨ ∀ b, v2.ownBlock = some b → w.heap.size ≤ b)) := ⟨⟨(hF4.out.1.trans (Fr.of_below hbn)).then_ hfa (fun k hk => .inr (hbo k hk).2.1), hF4.out.2⟩⟩
      have hga := Aside0.mk ((hfa.blk g (blk_lt (blk_below hgb4.out hbn)) (fun e => hvg.out e)).trans (blk_below hgb4.out hbn))
      have hdisa : Aside0 (∀ k, (k = g ∨ va.ownBlock = some k) → ¬ X2 R v2 k) := ⟨fun k hk e => by
        rcases hk with hk | hk
        · exact hdis4.out k (.inl hk) e
        · rcases hat with h5 | ⟨b, h5, h6⟩
          · exact hdis4.out k (.inr (h5 ▸ hk)) e
          · rw [h5] at hk
            have e7 := Option.some.inj hk
            have := (hlt4 k e).2
            have := hbn.size
            omega⟩
      have hvga : Aside0 (¬ va.ownBlock = some g) := ⟨fun e => by
        rcases hat with h5 | ⟨b, h5, h6⟩
        · exact hvg.out (h5 ▸ e)
        · rw [h5] at e
          have e7 := Option.some.inj e
          have := blk_lt hgb4.out
          have := hbn.size
          omega⟩
      have hAP2 : Aside0 ((A ++ [x]) ++ P' = L) := ⟨by rw [List.append_assoc]; exact hAP.out⟩
      have hAt2 : Aside0 (∀ e ∈ A ++ [x], e.f1 ≤ t) := ⟨fun e he => by
        rcases List.mem_append.1 he with he | he
        · exact hAt.out e he
        · rw [List.mem_singleton.1 he]
          exact hxt.out⟩
      clear hRa hfa hat hbo hlt4 hbn hW4 hpg e2 hAP hAt
      go_wp2_with (at_builtin; refine Lib.wpList_append_run _ (by rfl) (.tmp 29) (.tmp 31) 42 42 (by rfl) _ (.slice (some ⟨w4.heap.size, 0, none⟩) 1 1) (by rfl) (by rfl) va wa hrun ?_)
      go_roundg P'.length
      case measure => omega
      case rel => exact ⟨A ++ [x], P', x.f1, v2, _, rfl, Nat.le_refl _, hAP2, hAt2, hxt, hso2, hMa, hFa, hRa2, hdisa, hvga, hga⟩
    · have hde := due_split (V := L) (t := t) (hAP.out.trans HSO.out.symm) hAt.out hno
      have hcur : (if cur < t then t else cur) = t := by have := hct.out; split <;> omega
      rw [hcur] at hRW4
      have HD := Aside0.mk hde
      clear hpg hno hde hcur
      go_wp2
      go_ret2
      refine ⟨_, rfl, ⟨?_, v2, ?_, hF4.out.1, hF4.out.2⟩⟩
      · rw [HD.out.1]
        exact hR4.out
      · rw [HD.out.2]
        exact hRW4.out
end
end Go.Proofs.YtedolmjealgeoaaDoor.Wh
