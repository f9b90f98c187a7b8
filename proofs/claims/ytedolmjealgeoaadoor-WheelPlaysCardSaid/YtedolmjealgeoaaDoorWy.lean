/- The reference's wheel: Insert, Pop as calls. Conditions: it lies in memory as told. -/
import Derived.Test.YtedolmjealgeoaaDoorWv
set_option linter.unusedSimpArgs false
set_option linter.unusedVariables false
namespace Go.Proofs.YtedolmjealgeoaaDoor.Wh
open Go.RowKit Go.Maps Go.Proofs.YtedolmjealgeoaaDoor.PBase Go.Proofs.YtedolmjealgeoaaDoor.Cat Go.Proofs.YtedolmjealgeoaaDoor.Rg Go.Proofs.YtedolmjealgeoaaDoor.Tk Go.Proofs.YtedolmjealgeoaaDoorW.PrintWords Go.Proofs.YtedolmjealgeoaaDoorW.PrintLast Go.Proofs.YtedolmjealgeoaaDoorW.PrintMore
section
variable {N : Nat} {w w' : World} {R : Nat} {v : Value} {now : Int} {L : List S31}
set_option maxHeartbeats 8000000 in
set_option maxRecDepth 100000 in
theorem wins_calls (h : RW N w R v now L) (hn : (ids L).Nodup) (id a : Int) (hl : L.length ≤ 100000) (r : Int) (hr : insR now L id a = r) :
    Calls Tryd.prog 42 #[ptr R, .int .i64 id, .int .u64 a] w fun e w' => e = .returned (.int .i64 r) ∧ Aside0 (RWo N w R v w' now (if r = 0 then psort (⟨id, a⟩ :: L) else L)) := by
  have HF := Aside0.mk (wfind_calls h id (show L.length ≤ 1000000 by omega))
  have H := Aside0.mk h
  unfold insR at hr
  rcases plw_spec id L 0 with ⟨e, hni⟩ | ⟨k, hk, e, hkid⟩
  · rw [e] at HF
    rw [if_neg hni] at hr
    by_cases ha : a ≤ now
    · rw [if_pos ha] at hr
      subst hr
      have hd : decide (a ≤ now) = true := decide_eq_true ha
      clear h hn hni e
      go_enter Tryd.func42, Tryd.ntmps42
      go_wp2_with (go_at_call 75; refine HF.out.mono ?_; rintro e w1 ⟨rfl, hb1⟩; have c1 : w1.cell? ⟨R, 1, none⟩ = some (.int .u64 now) := (blk_cell (H.out.step hb1).g 1).trans rfl)
      go_ret
      exact ⟨rfl, ⟨H.out.go hb1⟩⟩
    · rw [if_neg ha] at hr
      subst hr
      have hd : decide (a ≤ now) = false := decide_eq_false ha
      rw [if_pos rfl]
      obtain ⟨A, c, e1, hc, hC⟩ := Kd.R_reads h.r
      subst e1
      have HC := Aside0.mk hC
      have HL := Aside0.mk hl
      clear h hn hni e hc hC
      go_enter Tryd.func42, Tryd.ntmps42
      go_upto_region 5 with (go_at_call 75; refine HF.out.mono ?_; rintro e w1 ⟨rfl, hb1⟩; have c1 : w1.cell? ⟨R, 1, none⟩ = some (.int .u64 now) := (blk_cell (H.out.step hb1).g 1).trans rfl)
      have hb1 := Aside0.mk hb1
      have hbA := Aside0.mk (below_alloc (Below.refl w1.heap.size w1) (.cells #[] 31))
      have hM1 := Aside0.mk (H.out.step hb1.out)
      have c0 : (w1.alloc (.cells #[] 31)).cell? ⟨R, 0, none⟩ = some (.slice A L.length c) := (blk_cell (hM1.out.step hbA.out).g 0).trans rfl
      obtain ⟨v1, w2, hrun1, hR1, hb2⟩ := run_rows (W := w1.alloc (.cells #[] 31)) 42 A L.length c L (R2_lit0 w1) (Kd.C_below HC.out (below_step hb1.out hbA.out)) hbA.out.size (by simp only [List.length_nil]; have := HL.out; omega)
      rw [List.nil_append] at hR1
      have hb12 := Aside0.mk (hbA.out.trans hb2)
      have hbB := Aside0.mk (below_alloc (Below.refl w2.heap.size w2) (.cells #[.int .i64 id, .int .u64 a] 31))
      obtain ⟨v2, w3, hrun2, hR2, hb3⟩ := run_rows (W := w2.alloc (.cells #[.int .i64 id, .int .u64 a] 31)) 42 (some ⟨w2.heap.size, 0, none⟩) 1 1 [⟨id, a⟩] (Kd.R_below hR1 hbB.out) (C_one (w := w2) ⟨id, a⟩) (Nat.le_trans hb12.out.size hbB.out.size) (by have := HL.out; omega)
      have hb13 := Aside0.mk (hb12.out.trans ((hbB.out.mono hb12.out.size).trans hb3))
      obtain ⟨A2, c2, e2, hc2, hC2⟩ := Kd.R_reads hR2
      subst e2
      have hs := rsort_walk A2 c2 (L ++ [⟨id, a⟩]) w3 hC2 (by rw [List.length_append]; have := HL.out; simp; omega)
      rw [isort_eq, psort_congr (List.perm_append_singleton (⟨id, a⟩ : S31) L)] at hs
      have HS := Aside0.mk hs
      have hM3 := Aside0.mk (hM1.out.step hb13.out)
      have HRB := Aside0.mk (blk_lt hM1.out.g)
      clear hs hR1 hR2 hb2 hb3 hc2 hC2
      obtain ⟨n2, hn2⟩ : ∃ n, (L ++ [(⟨id, a⟩ : S31)]).length = n := ⟨_, rfl⟩
      rw [hn2] at hrun2 HS
      clear hn2
      go_wp2_with (first
        | (at_builtin; refine Lib.wpList_append_run _ (by rfl) (.tmp 18) (.tmp 22) 42 42 (by rfl) _ (.slice A L.length c) (by rfl) (by rfl) v1 w2 hrun1 ?_)
        | (at_builtin; refine Lib.wpList_append_run _ (by rfl) (.tmp 23) (.tmp 27) 42 42 (by rfl) _ (.slice (some ⟨w2.heap.size, 0, none⟩) 1 1) (by rfl) (by rfl) (.slice A2 n2 c2) w3 hrun2 ?_)
        | (go_at_call 76; refine HS.out.mono ?_; rintro e w4 ⟨v4, rfl, hR4, hb4⟩; obtain ⟨A4, c4, e4⟩ := Kd.R_slice hR4; subst e4; have hM4 := Aside0.mk (hM3.out.step hb4); have c5 : w4.cell? ⟨R, 0, none⟩ = some (.slice A L.length c) := (blk_cell hM4.out.g 0).trans rfl; have f5 := blk_frozen hM4.out.g 0))
      go_ret
      have hput := hM1.out.put (below_step hb13.out hb4) (Kd.R_lower hR4 hb13.out.size)
      exact ⟨rfl, ⟨_, hput.1, (Fr.of_below hb1.out).trans hput.2.1, .inr (fun b e => Nat.le_trans hb1.out.size (hput.2.2 b e))⟩⟩
  · have hin : id ∈ ids L := List.mem_map.2 ⟨L[k], List.getElem_mem hk, hkid⟩
    rw [if_pos hin] at hr
    subst hr
    rw [e] at HF
    have hk0 : (0 : Int) + (k : Int) = (k : Int) := by omega
    rw [hk0] at HF
    have hk1 : (0 : Int) ≤ (k : Int) := by omega
    clear h hn e hin hkid hk
    go_enter Tryd.func42, Tryd.ntmps42
    go_wp2_with (go_at_call 75; refine HF.out.mono ?_; rintro e w1 ⟨rfl, hb1⟩)
    go_ret
    exact ⟨rfl, ⟨H.out.go hb1⟩⟩
theorem pop_ret {Q : Ending → World → Prop} {tmps : Array Value} {W : World} {x : S31} {b : Bool} {g : Nat} (hg : tmps.getD 4 undef = .pointer (some ⟨g, 0, none⟩)) (he : tmps.getD 5 undef = .bool b) (hb : W.heap[g]? = some (.cells #[.int .i64 x.f0, .int .u64 x.f1] 31 (0, 0))) (hQ : Q (.returned (.tuple #[.agg #[.int .i64 x.f0, .int .u64 x.f1], .bool b])) W) : bodyPost Tryd.prog Tryd.f44 Q Exit.ret { tmps := tmps, defers := [] } W :=
  bodyPost_ret (v := .tuple #[.agg #[.int .i64 x.f0, .int .u64 x.f1], .bool b]) (by rw [← he]; exact results_ct (fn := Tryd.f44) rfl tmps W g 31 _ (0, 0) _ hg hb Tryd.underlying31 rfl (by kernel_rfl)) rfl hQ
set_option maxHeartbeats 8000000 in
set_option maxRecDepth 100000 in
theorem wpop_no (h : RW N w R v now L) (t : Int) (hno : ∀ d, L.head? = some d → t < d.f1) : Calls Tryd.prog 44 #[ptr R, .int .u64 t] w fun e w' => e = .returned (.tuple #[.agg #[.int .i64 0, .int .u64 0], .bool false]) ∧ Aside0 (RWo N w R v w' (if now < t then t else now) L) := by
  have H := Aside0.mk h
  obtain ⟨A, c, e1, hc, hC⟩ := Kd.R_reads h.r
  subst e1
  have HC := Aside0.mk hC
  have hbx := below_alloc (Below.refl w.heap.size w) (.cells #[.int .i64 0, .int .u64 0] 31)
  have HX := Aside0.mk (blk_new w (.cells #[.int .i64 0, .int .u64 0] 31))
  have HM := Aside0.mk (h.step hbx)
  have HXR : Aside0 (w.heap.size ≠ R) := ⟨fun e => by have := blk_lt h.g; omega⟩
  have HB := Aside0.mk hbx
  obtain ⟨m, hm⟩ : ∃ m, (if now < t then t else now) = m := ⟨_, rfl⟩
  rw [hm]
  have hmx : ∀ W : World, (Builtin.max_ #[29, 29] 29 #[.int .u64 now, .int .u64 t]).run Tryd.prog W = .ok (.int .u64 m) W := fun W => by
    subst hm
    simp [Builtin.max_, Builtin.max2]
  clear hm h hc hC hbx
  have c0 : (w.alloc (.cells #[.int .i64 0, .int .u64 0] 31)).cell? ⟨R, 0, none⟩ = some (.slice A L.length c) := (blk_cell HM.out.g 0).trans rfl
  have c1 : (w.alloc (.cells #[.int .i64 0, .int .u64 0] 31)).cell? ⟨R, 1, none⟩ = some (.int .u64 now) := (blk_cell HM.out.g 1).trans rfl
  have f1 := blk_frozen HM.out.g 1
  have hfin : Aside0 (∀ wz, wz = (w.alloc (.cells #[.int .i64 0, .int .u64 0] 31)).setCell ⟨R, 1, none⟩ (.int .u64 m) → RWo N w R (.slice A L.length c) ((wz.setCell ⟨w.heap.size, 0, none⟩ (.int .i64 0)).setCell ⟨w.heap.size, 1, none⟩ (.int .u64 0)) m L ∧ ((wz.setCell ⟨w.heap.size, 0, none⟩ (.int .i64 0)).setCell ⟨w.heap.size, 1, none⟩ (.int .u64 0)).heap[w.heap.size]? = some (.cells #[.int .i64 0, .int .u64 0] 31 (0, 0))) := ⟨by
    rintro wz rfl
    have hs := HM.out.setNow m
    have g1 : Fr (fun k => k = w.heap.size) _ _ := (Fr.set ((w.alloc (.cells #[.int .i64 0, .int .u64 0] 31)).setCell ⟨R, 1, none⟩ (.int .u64 m)) w.heap.size 0 (.int .i64 0)).trans (Fr.set _ w.heap.size 1 (.int .u64 0))
    refine ⟨⟨_, hs.1.keep g1 (fun k hk e => ?_), ((Fr.of_below HB.out).trans hs.2).then_ g1 (fun b hb => .inr (Nat.le_of_eq hb.symm)), .inl rfl⟩, ?_⟩
    · have := H.out.lt k hk
      have e2 : k = w.heap.size := e
      omega
    · exact blk_set (blk_set (((Fr.set _ R 1 _).blk w.heap.size (blk_lt HX.out) HXR.out).trans HX.out) 0 _) 1 _⟩
  have hX6 := Aside0.mk (((Fr.set (w.alloc (.cells #[.int .i64 0, .int .u64 0] 31)) R 1 (.int .u64 m)).blk w.heap.size (blk_lt HX.out) HXR.out).trans HX.out)
  have x0 : ((w.alloc (.cells #[.int .i64 0, .int .u64 0] 31)).setCell ⟨R, 1, none⟩ (.int .u64 m)).cell? ⟨w.heap.size, 0, none⟩ = some (.int .i64 0) := (blk_cell hX6.out 0).trans rfl
  have x1 : ((w.alloc (.cells #[.int .i64 0, .int .u64 0] 31)).setCell ⟨R, 1, none⟩ (.int .u64 m)).cell? ⟨w.heap.size, 1, none⟩ = some (.int .u64 0) := (blk_cell hX6.out 1).trans rfl
  have z0 := blk_frozen hX6.out 0
  have z1 := blk_frozen hX6.out 1
  cases L with
  | nil =>
    go_enter Tryd.func44, Tryd.ntmps44
    go_upto_region 6 with (fail)
    generalize (w.alloc (.cells #[.int .i64 0, .int .u64 0] 31)).setCell ⟨R, 1, none⟩ (.int .u64 m) = wz at hfin x0 x1 z0 z1 ⊢
    have hf := Aside0.mk (hfin.out wz rfl)
    clear hfin c0 c1 f1
    go_wp2
    exact pop_ret (x := ⟨0, 0⟩) (g := w.heap.size) rfl rfl hf.out.2 ⟨rfl, ⟨hf.out.1⟩⟩
  | cons d L =>
    have hd := hno d rfl
    have hdn : ¬ d.f1 ≤ t := by omega
    obtain ⟨ad, e3, y0, y1⟩ := at_T31 (Kd.C_below HC.out HB.out) 0 (by omega) (by simp)
    subst e3
    replace y1 : (w.alloc (.cells #[.int .i64 0, .int .u64 0] 31)).cell? ⟨ad.block, ad.off + 1, none⟩ = some (.int .u64 d.f1) := y1
    have hlen : (0 : Int) < (((d :: L).length : Nat) : Int) := by simp
    have hlen2 : 0 < (d :: L).length := by simp
    have hdd : decide (d.f1 ≤ t) = false := decide_eq_false hdn
    obtain ⟨n, hn⟩ : ∃ n, (d :: L).length = n := ⟨_, rfl⟩
    rw [hn] at hlen hlen2 c0
    have HN := Aside0.mk hn
    clear hn hno hd y0
    have hgo : Calls Tryd.prog 44 #[ptr R, .int .u64 t] w fun e w' => e = .returned (.tuple #[.agg #[.int .i64 0, .int .u64 0], .bool false]) ∧ Aside0 (RWo N w R (.slice (some ad) (d :: L).length c) w' m (d :: L)) := by
      go_enter Tryd.func44, Tryd.ntmps44
      go_upto_region 6 with (fail)
      generalize (w.alloc (.cells #[.int .i64 0, .int .u64 0] 31)).setCell ⟨R, 1, none⟩ (.int .u64 m) = wz at hfin x0 x1 z0 z1 ⊢
      have hf := Aside0.mk (hfin.out wz rfl)
      clear hfin c0 c1 f1 y1
      go_wp2
      exact pop_ret (x := ⟨0, 0⟩) (g := w.heap.size) rfl rfl hf.out.2 ⟨rfl, ⟨hf.out.1⟩⟩
    exact hgo
set_option maxHeartbeats 8000000 in
set_option maxRecDepth 100000 in
theorem wpop_yes {x : S31} {L' : List S31} (h : RW N w R v now (x :: L')) (t : Int) (hle : x.f1 ≤ t) (hl : L'.length ≤ 100000) : Calls Tryd.prog 44 #[ptr R, .int .u64 t] w fun e w' => e = .returned (.tuple #[.agg #[.int .i64 x.f0, .int .u64 x.f1], .bool true]) ∧ Aside0 (RWo N w R v w' x.f1 L') := by
  have H := Aside0.mk h
  obtain ⟨A, c, e1, hc, hC⟩ := Kd.R_reads h.r
  subst e1
  have HC := Aside0.mk hC
  have Hc := Aside0.mk hc
  have hbx := below_alloc (Below.refl w.heap.size w) (.cells #[.int .i64 0, .int .u64 0] 31)
  have HX := Aside0.mk (blk_new w (.cells #[.int .i64 0, .int .u64 0] 31))
  have HM := Aside0.mk (h.step hbx)
  have HB := Aside0.mk hbx
  have hsz : (w.alloc (.cells #[.int .i64 0, .int .u64 0] 31)).heap.size = w.heap.size + 1 := by simp
  obtain ⟨i0, hi0, hzz⟩ := Option.map_eq_some_iff.1 info31
  simp only [Prod.mk.injEq] at hzz
  have hsz0 := hzz.2.1
  have q2 := cut_from (P := Tryd.prog) 42 31 .i64 Tryd.underlying42 hi0 2 hsz0 A (x :: L').length c 1 (by omega) (by simp; omega)
  obtain ⟨A4, hA4⟩ : ∃ A4, A4 = (if c = (1 : Int).toNat then A else A.map (·.add ((1 : Int).toNat * 2))) := ⟨_, rfl⟩
  rw [← hA4] at q2
  have HA4 := Aside0.mk hA4
  obtain ⟨n, hn⟩ : ∃ n, (x :: L').length = n := ⟨_, rfl⟩
  have HN : Aside0 (n = L'.length + 1 ∧ L'.length ≤ 100000) := ⟨⟨by rw [← hn]; rfl, hl⟩⟩
  have hn0 : (0 : Int) < (n : Int) := by have := HN.out; omega
  have hn1 : 0 < n := by have := HN.out; omega
  have hn2 : (1 : Int) ≤ (n : Int) := by omega
  have hdd : decide (x.f1 ≤ t) = true := decide_eq_true hle
  obtain ⟨ad, e3, y0, y1⟩ := at_T31 (Kd.C_below HC.out hbx) 0 (by omega) (by simp)
  cases e3
  replace y0 : (w.alloc (.cells #[.int .i64 0, .int .u64 0] 31)).cell? ad = some (.int .i64 x.f0) := y0
  replace y1 : (w.alloc (.cells #[.int .i64 0, .int .u64 0] 31)).cell? ⟨ad.block, ad.off + 1, none⟩ = some (.int .u64 x.f1) := y1
  have c0 : (w.alloc (.cells #[.int .i64 0, .int .u64 0] 31)).cell? ⟨R, 0, none⟩ = some (.slice (some ad) n c) := (blk_cell HM.out.g 0).trans (by rw [← hn]; rfl)
  rw [hn] at q2
  have HNN := Aside0.mk hn
  have HSZ := Aside0.mk hsz
  clear h hc hC hbx hsz hzz hsz0 hi0 hA4 hn
  have hgo : Calls Tryd.prog 44 #[ptr R, .int .u64 t] w fun e w' => e = .returned (.tuple #[.agg #[.int .i64 x.f0, .int .u64 x.f1], .bool true]) ∧ Aside0 (RWo N w R (.slice (some ad) (x :: L').length c) w' x.f1 L') := by
    go_enter Tryd.func44, Tryd.ntmps44
    go_upto_region 3 with (fail)
    generalize hw1 : w.alloc (.cells #[.int .i64 0, .int .u64 0] 31) = w1 at HX HM HB HSZ c0 y0 y1 ⊢
    have hbb := below_alloc (Below.refl w1.heap.size w1) (.cells #[.int .i64 x.f0, .int .u64 x.f1] 31)
    have HG := Aside0.mk (blk_new w1 (.cells #[.int .i64 x.f0, .int .u64 x.f1] 31))
    have HB3 := Aside0.mk (below_step HB.out hbb)
    have HX3 := Aside0.mk (blk_below HX.out hbb)
    have HM3 := Aside0.mk (HM.out.step hbb)
    have HGX : Aside0 (w.heap.size < w1.heap.size) := ⟨blk_lt HX.out⟩
    clear hw1 c0 y0 y1 hbb HX HM HB
    rw [HSZ.out] at HG HGX
    generalize w1.alloc (.cells #[.int .i64 x.f0, .int .u64 x.f1] 31) = w3 at HG HB3 HX3 HM3 ⊢
    generalize w.heap.size + 1 = g at HG HGX ⊢
    have HRg : Aside0 (g ≠ R) := ⟨fun e => by have := blk_lt H.out.g; have := HGX.out; omega⟩
    have b1 : w3.cell? ⟨g, 1, none⟩ = some (.int .u64 x.f1) := (blk_cell HG.out 1).trans rfl
    refine start_ (n := 17) (S := fun w' => w'.cell? ⟨g, 1, none⟩ = some (.int .u64 x.f1)) (ds := [16]) #[false, false, false, false, false, false, false, false, false, false, false, false, false, false, false, false, false] (by kernel_rfl) rfl rfl b1 (fun hHeld => ?_)
    have hb2 := below_drew1 (Below.refl w3.heap.size w3)
    have HM2 := Aside0.mk (HM3.out.step hb2)
    have hB2 := Aside0.mk (below_step HB3.out hb2)
    have HX2 := Aside0.mk (blk_below HX3.out hb2)
    have HG2 := Aside0.mk (blk_below HG.out hb2)
    generalize w3.drew = W2 at hHeld HM2 hB2 HX2 HG2 ⊢
    clear b1 hb2 HM3 HB3 HX3 HG
    have HS2 := Aside0.mk hHeld
    have HGl : Aside0 (g < W2.heap.size) := ⟨blk_lt HG2.out⟩
    have hbA := Aside0.mk (below_alloc (Below.refl W2.heap.size W2) (.cells #[] 31))
    have HCD : Aside0 (Kd.C k31 W2 A4 (n - 1) L') := ⟨by rw [HA4.out]; have h := Kd.C_drop (m := 1) (c := c) (Kd.C_below HC.out hB2.out) (by simp) Hc.out; rw [List.drop_one, List.tail_cons] at h; have e5 : L'.length = n - 1 := (by have := HN.out; omega); rw [e5] at h; exact h⟩
    have c0 : W2.cell? ⟨R, 0, none⟩ = some (.slice (some ad) n c) := (blk_cell HM2.out.g 0).trans (by rw [← HNN.out]; rfl)
    have q0 : (W2.alloc (.cells #[] 31)).cell? ⟨R, 0, none⟩ = some (.slice (some ad) n c) := (blk_cell (blk_below HM2.out.g hbA.out) 0).trans (by rw [← HNN.out]; rfl)
    refine pure_ (i := 0) (N := some 30) (v := ?_) (a' := ?_) #[true, false, false, false, false, false, false, false, false, false, false, false, false, false, false, false, false] rfl rfl (by kernel_rfl) (fun _ _ _ h => h) (Or.inl ⟨by rfl, ?_⟩) ?_ ?_
    rotate_left
    · intro w'
      go_simp
      with_reducible rfl
    rotate_left
    · simp only [Act.put, List.setIfInBounds_toArray, List.set_cons_zero, List.set_cons_succ]
      rfl
    refine pure_ (i := 1) (N := some 31) (v := ?_) (a' := ?_) #[true, true, false, false, false, false, false, false, false, false, false, false, false, false, false, false, false] rfl rfl (by kernel_rfl) (fun _ _ _ h => h) (Or.inl ⟨by rfl, ?_⟩) ?_ ?_
    rotate_left
    · intro w'
      go_simp
      with_reducible rfl
    rotate_left
    · simp only [Act.put, List.setIfInBounds_toArray, List.set_cons_zero, List.set_cons_succ]
      rfl
    refine pure_ (i := 3) (N := some 33) (v := ?_) (a' := ?_) #[true, true, false, true, false, false, false, false, false, false, false, false, false, false, false, false, false] rfl rfl (by kernel_rfl) (fun _ _ _ h => h) (Or.inl ⟨by rfl, ?_⟩) ?_ ?_
    rotate_left
    · intro w'
      go_simp
      with_reducible rfl
    rotate_left
    · simp only [Act.put, List.setIfInBounds_toArray, List.set_cons_zero, List.set_cons_succ]
      rfl
    refine pure_ (i := 4) (N := some 34) (v := ?_) (a' := ?_) #[true, true, false, true, true, false, false, false, false, false, false, false, false, false, false, false, false] rfl rfl (by kernel_rfl) (fun _ _ _ h => h) (Or.inl ⟨by rfl, ?_⟩) ?_ ?_
    rotate_left
    · intro w'
      go_simp
      with_reducible rfl
    rotate_left
    · simp only [Act.put, List.setIfInBounds_toArray, List.set_cons_zero, List.set_cons_succ]
      rfl
    refine pure_ (i := 5) (N := some 35) (v := ?_) (a' := ?_) #[true, true, false, true, true, true, false, false, false, false, false, false, false, false, false, false, false] rfl rfl (by kernel_rfl) (fun _ _ _ h => h) (Or.inl ⟨by rfl, ?_⟩) ?_ ?_
    rotate_left
    · intro w'
      go_simp
      with_reducible rfl
    rotate_left
    · simp only [Act.put, List.setIfInBounds_toArray, List.set_cons_zero, List.set_cons_succ]
      rfl
    refine pure_ (i := 9) (N := some 39) (v := ?_) (a' := ?_) #[true, true, false, true, true, true, false, false, false, true, false, false, false, false, false, false, false] rfl rfl (by kernel_rfl) (fun _ _ _ h => h) (Or.inl ⟨by rfl, ?_⟩) ?_ ?_
    rotate_left
    · intro w'
      go_simp
      with_reducible rfl
    rotate_left
    · simp only [Act.put, List.setIfInBounds_toArray, List.set_cons_zero, List.set_cons_succ]
      rfl
    refine take_ (i := 10) (N := some 40) (v := ?_) (a' := ?_) #[true, true, false, true, true, true, false, false, false, true, true, false, false, false, false, false, false] rfl rfl (by kernel_rfl) (fun _ _ _ h => h) (Or.inl ⟨by rfl, ?_⟩) hHeld ?_ ?_
    rotate_left
    · intro w' s0
      go_simp
      with_reducible rfl
    rotate_left
    · simp only [Act.put, List.setIfInBounds_toArray, List.set_cons_zero, List.set_cons_succ]
      rfl
    refine join_ (σ := Unit) 7 #[true, true, true, true, true, true, true, true, false, true, true, false, false, false, false, false, false] (fun _ => [(32, .slice (some ⟨W2.heap.size, 0, none⟩) 0 0), (36, .slice (some ad) n c), (37, .slice A4 (n - 1) (c - 1))]) (fun _ w' => w' = W2.alloc (.cells #[] 31)) ?_ ?_
    rotate_left
    · intro hj
      refine two_ (i := 2) (j := 6) (Ni := some 32) (Nj := some 36) #[true, true, true, true, true, true, false, false, false, true, true, false, false, false, false, false, false] #[true, true, false, true, true, true, true, false, false, true, true, false, false, false, false, false, false] rfl rfl rfl rfl (by kernel_rfl) (by decide) (by decide) (fun K hK => ?_) (fun K hK => ?_)
      · refine event_step (v := .slice (some ⟨W2.heap.size, 0, none⟩) 0 0) (w1 := W2.alloc (.cells #[] 31)) (by rfl) (by go_simp) ?_
        refine hK.out _ _ ((hbA.out.cell (p := ⟨g, 1, none⟩) HGl.out).trans hHeld) (fun hHeld => ?_)
        clear hK K
        refine one_ (i := 6) (N := some 36) #[true, true, true, true, true, true, true, false, false, true, true, false, false, false, false, false, false] rfl rfl (by kernel_rfl) (by decide) (fun K hK => ?_)
        refine event_step (v := .slice (some ad) n c) (w1 := W2.alloc (.cells #[] 31)) (by rfl) (by go_simp) ?_
        refine hK.out _ _ hHeld (fun _ => ?_)
        clear hK K
        refine norm_ (a' := ?_) ?_ ?_
        rotate_left
        · simp only [Act.put, List.setIfInBounds_toArray, List.set_cons_zero, List.set_cons_succ]
          rfl
        refine pure_ (i := 7) (N := some 37) (v := ?_) (a' := ?_) #[true, true, true, true, true, true, true, true, false, true, true, false, false, false, false, false, false] rfl rfl (by kernel_rfl) (fun _ _ _ h => h) (Or.inl ⟨by rfl, ?_⟩) ?_ ?_
        rotate_left
        · intro w'
          go_simp
          with_reducible rfl
        rotate_left
        · simp only [Act.put, List.setIfInBounds_toArray, List.set_cons_zero, List.set_cons_succ]
          rfl
        exact norm_ rfl (hj () _ rfl)
      · refine event_step (v := .slice (some ad) n c) (w1 := W2) (by rfl) (by go_simp) ?_
        refine hK.out _ _ hHeld (fun hHeld => ?_)
        clear hK K
        refine norm_ (a' := ?_) ?_ ?_
        rotate_left
        · simp only [Act.put, List.setIfInBounds_toArray, List.set_cons_zero, List.set_cons_succ]
          rfl
        refine pure_ (i := 7) (N := some 37) (v := ?_) (a' := ?_) #[true, true, false, true, true, true, true, true, false, true, true, false, false, false, false, false, false] rfl rfl (by kernel_rfl) (fun _ _ _ h => h) (Or.inl ⟨by rfl, ?_⟩) ?_ ?_
        rotate_left
        · intro w'
          go_simp
          with_reducible rfl
        rotate_left
        · simp only [Act.put, List.setIfInBounds_toArray, List.set_cons_zero, List.set_cons_succ]
          rfl
        refine one_ (i := 2) (N := some 32) #[true, true, true, true, true, true, true, true, false, true, true, false, false, false, false, false, false] rfl rfl (by kernel_rfl) (by decide) (fun K hK => ?_)
        refine event_step (v := .slice (some ⟨W2.heap.size, 0, none⟩) 0 0) (w1 := W2.alloc (.cells #[] 31)) (by rfl) (by go_simp) ?_
        refine hK.out _ _ ((hbA.out.cell (p := ⟨g, 1, none⟩) HGl.out).trans hHeld) (fun _ => ?_)
        exact norm_ rfl (hj () _ rfl)
    rintro _ w' rfl
    replace hHeld : (W2.alloc (.cells #[] 31)).cell? ⟨g, 1, none⟩ = some (.int .u64 x.f1) := (hbA.out.cell (p := ⟨g, 1, none⟩) HGl.out).trans hHeld
    refine norm_ (a' := ?_) ?_ ?_
    rotate_left
    · simp only [putAll, Act.put, List.setIfInBounds_toArray, List.set_cons_zero, List.set_cons_succ]
      rfl
    refine one_ (i := 8) (N := some 38) #[true, true, true, true, true, true, true, true, true, true, true, false, false, false, false, false, false] rfl rfl (by kernel_rfl) (by decide) (fun K hK => ?_)
    refine step_rows (K := _) W2.heap.size (by rfl) (.tmp 32) (.tmp 37) (by rfl) (.slice (some ⟨W2.heap.size, 0, none⟩) 0 0) [] A4 (n - 1) (c - 1) L' (by rfl) (by rfl) (R2_lit0 W2) (Kd.C_below HCD.out hbA.out) hbA.out.size (by simp only [List.length_nil]; have := HN.out; omega) ?_
    intro v4 w4 HV4 hb3
    have hb4 := Aside0.mk (hbA.out.trans hb3)
    rw [List.nil_append] at HV4
    have HV4 := Aside0.mk HV4
    refine hK.out _ _ ((hb4.out.cell (p := ⟨g, 1, none⟩) HGl.out).trans HS2.out) (fun hHeld => ?_)
    clear hK K
    refine norm_ (a' := ?_) ?_ ?_
    rotate_left
    · show Act.put _ (some 38) _ = _
      simp only [Act.put, List.setIfInBounds_toArray, List.set_cons_zero, List.set_cons_succ]
      rfl
    refine pure_ (i := 11) (N := some 41) (v := ?_) (a' := ?_) #[true, true, true, true, true, true, true, true, true, true, true, true, false, false, false, false, false] rfl rfl (by kernel_rfl) (fun _ _ _ h => h) (Or.inl ⟨by rfl, ?_⟩) ?_ ?_
    rotate_left
    · intro w'
      go_simp
      with_reducible rfl
    rotate_left
    · simp only [Act.put, List.setIfInBounds_toArray, List.set_cons_zero, List.set_cons_succ]
      rfl
    refine pure_ (i := 12) (N := some 42) (v := ?_) (a' := ?_) #[true, true, true, true, true, true, true, true, true, true, true, true, true, false, false, false, false] rfl rfl (by kernel_rfl) (fun _ _ _ h => h) (Or.inl ⟨by rfl, ?_⟩) ?_ ?_
    rotate_left
    · intro w'
      go_simp
      with_reducible rfl
    rotate_left
    · simp only [Act.put, List.setIfInBounds_toArray, List.set_cons_zero, List.set_cons_succ]
      rfl
    refine one_ (i := 13) (N := none) #[true, true, true, true, true, true, true, true, true, true, true, true, true, true, false, false, false] rfl rfl (by kernel_rfl) (by decide) (fun K hK => ?_)
    obtain ⟨A5, c5, e9⟩ := Kd.R_slice HV4.out
    obtain ⟨n5, hn5⟩ : ∃ n5, L'.length = n5 := ⟨_, rfl⟩
    rw [hn5] at e9
    subst e9
    have hput := Aside0.mk (HM2.out.put hb4.out HV4.out)
    have hB4 := Aside0.mk (blk_below HM2.out.g hb4.out)
    have hs : w4.cell? ⟨R, 0, none⟩ = some (.slice (some ad) n c) := (blk_cell hB4.out 0).trans (by rw [← HNN.out]; rfl)
    have hfs := blk_frozen hB4.out 0
    have hG5 := ((Fr.set w4 R 0 (.slice A5 n5 c5)).blk g (Nat.lt_of_lt_of_le HGl.out hb4.out.size) HRg.out).trans (blk_below HG2.out hb4.out)
    refine skip_ (w1 := w4.setCell ⟨R, 0, none⟩ (.slice A5 n5 c5)) (by rfl) rfl (by go_simp) ?_
    refine hK.out _ _ ((blk_cell hG5 1).trans rfl) (fun hHeld => ?_)
    clear hK K
    refine pure_ (i := 14) (N := some 43) (v := ?_) (a' := ?_) #[true, true, true, true, true, true, true, true, true, true, true, true, true, true, true, false, false] rfl rfl (by kernel_rfl) (fun _ _ _ h => h) (Or.inl ⟨by rfl, ?_⟩) ?_ ?_
    rotate_left
    · intro w'
      go_simp
      with_reducible rfl
    rotate_left
    · simp only [Act.put, List.setIfInBounds_toArray, List.set_cons_zero, List.set_cons_succ]
      rfl
    refine pure_ (i := 15) (N := some 44) (v := ?_) (a' := ?_) #[true, true, true, true, true, true, true, true, true, true, true, true, true, true, true, true, false] rfl rfl (by kernel_rfl) (fun _ _ _ h => h) (Or.inl ⟨by rfl, ?_⟩) ?_ ?_
    rotate_left
    · intro w'
      go_simp
      with_reducible rfl
    rotate_left
    · simp only [Act.put, List.setIfInBounds_toArray, List.set_cons_zero, List.set_cons_succ]
      rfl
    refine last_ (i := 16) (N := none) #[true, true, true, true, true, true, true, true, true, true, true, true, true, true, true, true, true] rfl rfl (by kernel_rfl) (by decide) (fun K hK => ?_)
    have hs2 : (w4.setCell ⟨R, 0, none⟩ (.slice A5 n5 c5)).cell? ⟨R, 1, none⟩ = some (.int .u64 now) := (blk_cell hput.out.1.g 1).trans rfl
    have hfs2 := blk_frozen hput.out.1.g 1
    refine skip_ (w1 := (w4.setCell ⟨R, 0, none⟩ (.slice A5 n5 c5)).setCell ⟨R, 1, none⟩ (.int .u64 x.f1)) (by rfl) rfl (by go_simp) ?_
    refine hK.out _ _ ?_
    clear hK K hs2 hfs2
    refine done_ (by kernel_rfl) ?_
    have hput2 := Aside0.mk (hput.out.1.setNow x.f1)
    have hXR : w.heap.size ≠ R := fun e => by have := blk_lt H.out.g; omega
    have hX5 := ((Fr.set w4 R 0 (.slice A5 n5 c5)).blk w.heap.size (blk_lt (blk_below HX2.out hb4.out)) hXR).trans (blk_below HX2.out hb4.out)
    have hX6 := Aside0.mk (((Fr.set _ R 1 (.int .u64 x.f1)).blk w.heap.size (blk_lt hX5) hXR).trans hX5)
    have hG6 := Aside0.mk (((Fr.set _ R 1 (.int .u64 x.f1)).blk g (blk_lt hG5) HRg.out).trans hG5)
    have hWW : Aside0 (w.heap.size < W2.heap.size) := ⟨blk_lt HX2.out⟩
    generalize (w4.setCell ⟨R, 0, none⟩ (.slice A5 n5 c5)).setCell ⟨R, 1, none⟩ (.int .u64 x.f1) = w6 at hput2 hX6 hG6 ⊢
    clear hHeld hb4 hB4 hG5 hX5 hs hfs hb3 HV4
    have v0 : w6.cell? ⟨g, 0, none⟩ = some (.int .i64 x.f0) := (blk_cell hG6.out 0).trans rfl
    have v1 : w6.cell? ⟨g, 1, none⟩ = some (.int .u64 x.f1) := (blk_cell hG6.out 1).trans rfl
    have y0 : w6.cell? ⟨w.heap.size, 0, none⟩ = some (.int .i64 0) := (blk_cell hX6.out 0).trans rfl
    have y1 : w6.cell? ⟨w.heap.size, 1, none⟩ = some (.int .u64 0) := (blk_cell hX6.out 1).trans rfl
    have z0 := blk_frozen hX6.out 0
    have z1 := blk_frozen hX6.out 1
    have HXR := Aside0.mk hXR
    clear hXR
    go_wp2
    have f1 : Fr (fun k => k = w.heap.size) w6 ((w6.setCell ⟨w.heap.size, 0, none⟩ (.int .i64 x.f0)).setCell ⟨w.heap.size, 1, none⟩ (.int .u64 x.f1)) := (Fr.set w6 w.heap.size 0 _).trans (Fr.set _ w.heap.size 1 _)
    refine pop_ret (x := x) (g := w.heap.size) rfl rfl (blk_set (blk_set hX6.out 0 _) 1 _) ⟨rfl, ⟨_, hput2.out.1.keep f1 (fun k hk e => ?_), (((Fr.of_below hB2.out).trans hput.out.2.1).then_ hput2.out.2 (fun b hb => ?_)).then_ f1 (fun b hb => .inr (Nat.le_of_eq hb.symm)), .inr (fun b hb => ?_)⟩⟩
    · have e2 : k = w.heap.size := e
      rcases hk with rfl | hk
      · exact HXR.out e2.symm
      · have := hput.out.2.2 k hk
        have := hWW.out
        omega
    · rcases hb with rfl | hb
      · exact .inl (.inl rfl)
      · exact .inr (Nat.le_trans hB2.out.size (hput.out.2.2 b hb))
    · have := hput.out.2.2 b hb
      have := hB2.out.size
      omega
  rw [HNN.out] at hgo ⊢
  exact hgo
/-- The reference's Pop: what a Pop tells and leaves, of a sorted row. -/
theorem wpop_calls (h : RW N w R v now L) (hs : psort L = L) (t : Int) (hl : L.length ≤ 100000) : Calls Tryd.prog 44 #[ptr R, .int .u64 t] w fun e w' => ∃ x more cur L', e = .returned (.tuple #[.agg #[.int .i64 x.f0, .int .u64 x.f1], .bool more]) ∧ Aside0 (PopG now L t x more cur L') ∧ Aside0 (RWo N w R v w' cur L') := by
  cases L with
  | nil =>
    refine (wpop_no h t (fun d hd => by cases hd)).mono ?_
    rintro e w' ⟨rfl, hg⟩
    exact ⟨⟨0, 0⟩, false, _, [], rfl, ⟨.no (fun d hd => absurd hd List.not_mem_nil)⟩, hg⟩
  | cons d L =>
    by_cases hle : d.f1 ≤ t
    · refine (wpop_yes h t hle (by rw [List.length_cons] at hl; omega)).mono ?_
      rintro e w' ⟨rfl, hg⟩
      exact ⟨d, true, d.f1, L, rfl, ⟨.yes d L hs hle⟩, hg⟩
    · refine (wpop_no h t (fun e he => by injection he with he; subst he; omega)).mono ?_
      rintro e w' ⟨rfl, hg⟩
      refine ⟨⟨0, 0⟩, false, _, d :: L, rfl, ⟨.no (fun e he => ?_)⟩, hg⟩
      have hso : So (d :: L) := hs ▸ psort_so (d :: L)
      rcases List.mem_cons.1 he with rfl | he
      · omega
      · have := (List.pairwise_cons.1 hso).1 e he
        rw [nb_iff] at this
        omega
end
end Go.Proofs.YtedolmjealgeoaaDoor.Wh
