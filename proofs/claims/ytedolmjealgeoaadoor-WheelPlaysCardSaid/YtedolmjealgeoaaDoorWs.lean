/- The reference's wheel: Place, Load as calls. Conditions: it lies in memory as told. -/
import Derived.Test.YtedolmjealgeoaaDoorWr
set_option linter.unusedVariables false
namespace Go.Proofs.YtedolmjealgeoaaDoor.Wh
open Go.RowKit Go.Maps Go.Proofs.YtedolmjealgeoaaDoor.PBase Go.Proofs.YtedolmjealgeoaaDoor.Cat Go.Proofs.YtedolmjealgeoaaDoor.Rg Go.Proofs.YtedolmjealgeoaaDoor.Tk Go.Proofs.YtedolmjealgeoaaDoorW.PrintWords Go.Proofs.YtedolmjealgeoaaDoorW.PrintLast Go.Proofs.YtedolmjealgeoaaDoorW.PrintMore
section
variable {N : Nat} {w w' : World} {R : Nat} {v : Value} {now : Int} {L : List S31}
set_option maxHeartbeats 8000000 in
set_option maxRecDepth 100000 in
theorem wplace_calls (h : RW N w R v now L) (hn : (ids L).Nodup) (hu : ∀ d ∈ L, U d.f1) (hnw : U now) (id : Int) (hl : L.length ≤ 1000000) (o : Option Int) (ho : tof L id = o) : Calls Tryd.prog 47 #[ptr R, .int .i64 id] w fun e w' => e = .returned (.tuple #[placeO now o, .bool o.isSome]) ∧ Below w.heap.size w w' := by
  have HA := Aside0.mk (wat_calls h hn id hl o ho)
  cases o with
  | none =>
    clear h hn hu ho
    go_enter Tryd.func47, Tryd.ntmps47
    go_upto_region 2 with (go_at_call 49; refine HA.out.mono ?_; rintro e w1 ⟨rfl, hb1⟩)
    have hb := Aside0.mk (below_step hb1 (below_alloc (Below.refl w1.heap.size w1) (.cells #[.int .u64 0, .bool false] 64)))
    have hg := blk_new w1 (.cells #[.int .u64 0, .bool false] 64)
    generalize hw : w1.alloc (.cells #[.int .u64 0, .bool false] 64) = w2 at hb hg
    have q1 : w2.cell? ⟨w1.heap.size, 1, none⟩ = some (.bool false) := (blk_cell hg 1).trans rfl
    clear hg hb1
    first
      | (rw [show (w1.alloc (.cells #[.int .u64 (Option.getD none 0), .bool (Option.isSome none)] 64)) = w2 from hw])
      | skip
    clear hw
    go_wp2
    go_ret2
    exact ⟨rfl, hb.out⟩
  | some a =>
    have hua : U a := hu _ (tof_get ho)
    have H := Aside0.mk h
    have HN := Aside0.mk (And.intro hua hnw)
    have hd := dg_range a (lv a now)
    have hk : lv6 a now = if lv a now < 6 then (lv a now : Int) else 6 := rfl
    show Calls Tryd.prog 47 #[ptr R, .int .i64 id] w fun e w' => e = .returned (.tuple #[placeV now a, .bool true]) ∧ Below w.heap.size w w'
    unfold placeV
    have HD : Aside0 (remontoirref01_Digits.f 12 a = some (dg a 0, dg a 1, dg a 2, dg a 3, dg a 4, dg a 5, dg a 6, dg a 7, dg a 8, dg a 9, dg a 10)) := ⟨rdigits hua 0⟩
    have hlv := Aside0.mk (fun w' (hb : Below w.heap.size w w') => level_calls (H.out.step hb) HN.out.1 HN.out.2)
    rw [hk] at hlv
    clear hk
    generalize lv a now = k at hd hlv ⊢
    have hdl := hd.1
    have hdg := hd.2
    clear h hn hu ho hua hd hnw
    by_cases hlt : k < 6
    · rw [if_pos hlt] at hlv ⊢
      have h1 : ((k : Int) == 6) = false := beq_eq_false_iff_ne.mpr (by omega)
      have u3 : (Tryd.prog.underlying 3).isSome = true := by rw [Tryd.underlying3]; rfl
      have u91 : Tryd.prog.underlying 91 = some (.float .f64) := Tryd.underlying91
      have cv := fun n w => run_convert_int_float (P := Tryd.prog) w 3 91 .i64 .f64 n u3 u91
      have hix := run_index93 a (k := k) (by omega)
      go_enter Tryd.func47, Tryd.ntmps47
      go_upto_region 2 with (go_at_call 49; refine HA.out.mono ?_; rintro e w1 ⟨rfl, hb1⟩)
      have hg := Aside0.mk (blk_new w1 (.cells #[.int .u64 a, .bool true] 64))
      have hb := Aside0.mk (below_step hb1 (below_alloc (Below.refl w1.heap.size w1) (.cells #[.int .u64 a, .bool true] 64)))
      have q0 : (w1.alloc (.cells #[.int .u64 a, .bool true] 64)).cell? ⟨w1.heap.size, 0, none⟩ = some (.int .u64 a) := (blk_cell hg.out 0).trans rfl
      have q1 : (w1.alloc (.cells #[.int .u64 a, .bool true] 64)).cell? ⟨w1.heap.size, 1, none⟩ = some (.bool true) := (blk_cell hg.out 1).trans rfl
      clear hb1
      go_wp2_with (first
        | (go_at_call 77; refine (hlv.out _ hb.out).mono ?_; rintro e w2 ⟨rfl, hb2⟩; have q2 : w2.cell? ⟨w1.heap.size, 0, none⟩ = some (.int .u64 a) := (blk_cell (blk_below hg.out hb2) 0).trans rfl)
        | (go_at_call 78; refine (remontoirref01_Digits.calls 12 a _ _ _ _ _ _ _ _ _ _ _ _ HD.out).mono ?_; rintro e w3 ⟨rfl, hb3⟩))
      go_ret2
      exact ⟨rfl, below_step (below_step hb.out hb2) hb3⟩
    · rw [if_neg hlt] at hlv ⊢
      go_enter Tryd.func47, Tryd.ntmps47
      go_upto_region 2 with (go_at_call 49; refine HA.out.mono ?_; rintro e w1 ⟨rfl, hb1⟩)
      have hg := Aside0.mk (blk_new w1 (.cells #[.int .u64 a, .bool true] 64))
      have hb := Aside0.mk (below_step hb1 (below_alloc (Below.refl w1.heap.size w1) (.cells #[.int .u64 a, .bool true] 64)))
      have q0 : (w1.alloc (.cells #[.int .u64 a, .bool true] 64)).cell? ⟨w1.heap.size, 0, none⟩ = some (.int .u64 a) := (blk_cell hg.out 0).trans rfl
      have q1 : (w1.alloc (.cells #[.int .u64 a, .bool true] 64)).cell? ⟨w1.heap.size, 1, none⟩ = some (.bool true) := (blk_cell hg.out 1).trans rfl
      clear hb1
      go_wp2_with (first
        | (go_at_call 77; refine (hlv.out _ hb.out).mono ?_; rintro e w2 ⟨rfl, hb2⟩))
      go_ret2
      exact ⟨rfl, below_step hb.out hb2⟩
/-- How many of the first i lie on a level. -/
def cnt (now : Int) (L : List S31) (i j : Nat) : Int := (((L.take i).filter (fun d => lv6 d.f1 now == (j : Int))).length : Int)
theorem cnt_zero (now : Int) (L : List S31) : cnt now L 0 = fun _ => 0 := by
  funext j
  simp [cnt]
theorem cnt_step {i : Nat} (hi : i < L.length) {q : Nat} (hq : lv6 L[i].f1 now = (q : Int)) (j : Nat) : cnt now L (i + 1) j = if j = q then cnt now L i j + 1 else cnt now L i j := by
  unfold cnt
  rw [List.take_succ_eq_append_getElem hi, List.filter_append, List.length_append]
  by_cases e : j = q
  · rw [if_pos e, List.filter_cons_of_pos (by rw [hq, e]; simp)]
    simp
  · rw [if_neg e, List.filter_cons_of_neg (by
      rw [hq]
      have : ¬ (q : Int) = (j : Int) := by omega
      simpa using this)]
    simp
theorem cnt_le (i j : Nat) : 0 ≤ cnt now L i j ∧ cnt now L i j ≤ L.length := by
  unfold cnt
  have h1 := List.length_filter_le (fun d : S31 => lv6 d.f1 now == (j : Int)) (L.take i)
  have h2 : (L.take i).length ≤ L.length := by rw [List.length_take]; omega
  omega
theorem cnt_all {j : Nat} (hj : j < 7) : cnt now L L.length j = loadF now L j := by
  unfold cnt loadF rgT farT
  rw [List.take_length]
  by_cases h6 : j < 6
  · rw [if_pos h6, List.length_map]
    have h5 : L.filter (fun d => lv6 d.f1 now == (j : Int)) = L.filter (fun d => lv d.f1 now == j) := List.filter_congr (fun d _ => by
      unfold lv6
      by_cases h : lv d.f1 now < 6
      · rw [if_pos h]
        by_cases e : lv d.f1 now = j
        · rw [e, beq_self_eq_true, beq_self_eq_true]
        · rw [beq_eq_false_iff_ne.mpr e]
          exact beq_eq_false_iff_ne.mpr (by omega)
      · rw [if_neg h, beq_eq_false_iff_ne.mpr (show lv d.f1 now ≠ j by omega)]
        exact beq_eq_false_iff_ne.mpr (by omega))
    rw [h5]
  · rw [if_neg h6]
    have h5 : L.filter (fun d => lv6 d.f1 now == (j : Int)) = L.filter (fun d => decide (6 ≤ lv d.f1 now)) := List.filter_congr (fun d _ => by
      unfold lv6
      by_cases h : lv d.f1 now < 6
      · rw [if_pos h, decide_eq_false (by omega)]
        exact beq_eq_false_iff_ne.mpr (by omega)
      · rw [if_neg h, decide_eq_true (by omega)]
        exact beq_iff_eq.mpr (by omega))
    rw [h5]
theorem lc7_at (f : Nat → Int) {j : Nat} (hj : j < 7) : (lcells f 7)[j]? = some (.int .i64 (f j)) := by
  have h : j = 0 ∨ j = 1 ∨ j = 2 ∨ j = 3 ∨ j = 4 ∨ j = 5 ∨ j = 6 := by omega
  rcases h with rfl | rfl | rfl | rfl | rfl | rfl | rfl <;> rfl
theorem lc7_ext {f g : Nat → Int} (h : ∀ j, j < 7 → f j = g j) : lcells f 7 = lcells g 7 := by
  unfold lcells
  rw [h 0 (by decide), h 1 (by decide), h 2 (by decide), h 3 (by decide), h 4 (by decide), h 5 (by decide), h 6 (by decide)]
theorem lc7_set (f : Nat → Int) {j : Nat} (hj : j < 7) (x : Int) : (lcells f 7).setIfInBounds j (.int .i64 x) = lcells (fun i => if i = j then x else f i) 7 := by
  have h : j = 0 ∨ j = 1 ∨ j = 2 ∨ j = 3 ∨ j = 4 ∨ j = 5 ∨ j = 6 := by omega
  rcases h with rfl | rfl | rfl | rfl | rfl | rfl | rfl <;> rfl
theorem lc7_zero : lcells (fun _ => 0) 7 = #[.int .i64 0, .int .i64 0, .int .i64 0, .int .i64 0, .int .i64 0, .int .i64 0, .int .i64 0] := rfl
theorem lv6_nat (a now : Int) : ∃ q : Nat, lv6 a now = (q : Int) ∧ q < 7 := by
  unfold lv6
  by_cases h : lv a now < 6
  · exact ⟨lv a now, by rw [if_pos h], by omega⟩
  · exact ⟨6, by rw [if_neg h]; rfl, by decide⟩
theorem load_ret79 {Q : Ending → World → Prop} {tmps : Array Value} {W : World} {f : Nat → Int} {j g : Nat} (hg : tmps.getD 2 undef = .pointer (some ⟨g, 0, none⟩)) (hb : W.heap[g]? = some (.cells (lcells f j) 74 (0, 0))) (hQ : Q (.returned (.agg (lcells f j))) W) : bodyPost Tryd.prog Tryd.f79 Q Exit.ret { tmps := tmps, defers := [] } W :=
  bodyPost_ret (v := .agg (lcells f j)) (results_cell_row (fn := Tryd.f79) rfl tmps W g 74 _ (0, 0) _ hg hb Tryd.underlying74 rfl (by kernel_rfl)) rfl hQ
set_option maxHeartbeats 8000000 in
set_option maxRecDepth 100000 in
theorem wload_calls (h : RW N w R v now L) (hu : ∀ d ∈ L, U d.f1) (hnw : U now) (hl : L.length ≤ 1000000) : Calls Tryd.prog 79 #[ptr R] w fun e w' => e = .returned (.agg (lcells (loadF now L) 7)) ∧ Below w.heap.size w w' := by
  have hb1 := below_alloc (Below.refl w.heap.size w) (.cells #[.int .i64 0, .int .i64 0, .int .i64 0, .int .i64 0, .int .i64 0, .int .i64 0, .int .i64 0] 74)
  have hg1 := blk_new w (.cells #[.int .i64 0, .int .i64 0, .int .i64 0, .int .i64 0, .int .i64 0, .int .i64 0, .int .i64 0] 74)
  have hsz : (w.alloc (.cells #[.int .i64 0, .int .i64 0, .int .i64 0, .int .i64 0, .int .i64 0, .int .i64 0, .int .i64 0] 74)).heap.size = w.heap.size + 1 := by simp
  have hg2 := blk_new (w.alloc (.cells #[.int .i64 0, .int .i64 0, .int .i64 0, .int .i64 0, .int .i64 0, .int .i64 0, .int .i64 0] 74)) (.cells #[.int .i64 0, .int .i64 0, .int .i64 0, .int .i64 0, .int .i64 0, .int .i64 0, .int .i64 0] 74)
  rw [hsz] at hg2
  have hg12 := blk_alloc hg1 (.cells #[.int .i64 0, .int .i64 0, .int .i64 0, .int .i64 0, .int .i64 0, .int .i64 0, .int .i64 0] 74)
  have hb2 := below_alloc hb1 (.cells #[.int .i64 0, .int .i64 0, .int .i64 0, .int .i64 0, .int .i64 0, .int .i64 0, .int .i64 0] 74)
  obtain ⟨A, c, e0, hc, hC⟩ := Kd.R_reads h.r
  subst e0
  have H := Aside0.mk h
  have HC := Aside0.mk hC
  have HU := Aside0.mk (And.intro hu hnw)
  have HG2 : Aside0 (((w.alloc (.cells #[.int .i64 0, .int .i64 0, .int .i64 0, .int .i64 0, .int .i64 0, .int .i64 0, .int .i64 0] 74)).alloc (.cells #[.int .i64 0, .int .i64 0, .int .i64 0, .int .i64 0, .int .i64 0, .int .i64 0, .int .i64 0] 74)).heap[w.heap.size + 1]? = some (.cells (lcells (cnt now L 0) 7) 74 (0, 0))) := ⟨by rw [cnt_zero]; exact hg2⟩
  have HG12 := Aside0.mk hg12
  have HB2 := Aside0.mk hb2
  have HC0 : Aside0 (∀ w', Below w.heap.size w w' → w'.cell? ⟨R, 0, none⟩ = some (.slice A L.length c)) := ⟨fun w' hb => (blk_cell (H.out.step hb).g 0).trans rfl⟩
  have c0 := HC0.out _ hb2
  clear h hC hc hu hnw hg1 hg2 hg12 hb1 hb2 hsz
  go_enter Tryd.func79, Tryd.ntmps79
  go_wp2
  generalize (w.alloc (.cells #[.int .i64 0, .int .i64 0, .int .i64 0, .int .i64 0, .int .i64 0, .int .i64 0, .int .i64 0] 74)).alloc (.cells #[.int .i64 0, .int .i64 0, .int .i64 0, .int .i64 0, .int .i64 0, .int .i64 0, .int .i64 0] 74) = W2 at c0 HB2 HG2 HG12 ⊢
  have HNE : Aside0 (w.heap.size < w.heap.size + 1) := ⟨Nat.lt_succ_self _⟩
  generalize w.heap.size + 1 = g at HG2 HNE ⊢
  clear c0
  go_loopg [4] L.length (fun gk v4 wr => ∃ i : Nat, v4 = .int .i64 i ∧ i ≤ L.length ∧ L.length - i ≤ gk ∧ Aside0 (wr.heap[g]? = some (.cells (lcells (cnt now L i) 7) 74 (0, 0))) ∧ Aside0 (wr.heap[w.heap.size]? = some (.cells #[.int .i64 0, .int .i64 0, .int .i64 0, .int .i64 0, .int .i64 0, .int .i64 0, .int .i64 0] 74 (0, 0))) ∧ Aside0 (Below w.heap.size w wr))
  case atStart => exact ⟨0, rfl, Nat.zero_le _, by omega, HG2, HG12, HB2⟩
  case round =>
    obtain ⟨i, rfl, hi, hgk, hG, hR, hB⟩ := hrel
    clear HG2 HG12 HB2
    have c0 := HC0.out wr hB.out
    by_cases hlt : i < L.length
    · have hi0 : (0 : Int) ≤ (i : Int) := by omega
      have hi1 : (i : Int) < (L.length : Int) := by omega
      obtain ⟨ad, e1, _, hx1⟩ := at_T31 (Kd.C_below HC.out hB.out) (i : Int) (by omega) hi1
      subst e1
      rw [Int.toNat_natCast, rd31 L i hlt] at hx1
      obtain ⟨q, hq, hq7⟩ := lv6_nat L[i].f1 now
      have hst := Aside0.mk (cnt_step (now := now) hlt hq)
      have hua := HU.out.1 L[i] (List.getElem_mem hlt)
      obtain ⟨a, ha⟩ : ∃ a, L[i].f1 = a := ⟨_, rfl⟩
      rw [ha] at hx1 hq hua
      have hlv := level_calls (H.out.step hB.out) hua HU.out.2
      rw [hq] at hlv
      have HLV := Aside0.mk hlv
      have hq0 : (0 : Int) ≤ (q : Int) := by omega
      have hq71 : (q : Int) < 7 := by omega
      obtain ⟨x, hx⟩ : ∃ x, cnt now L i q = x := ⟨_, rfl⟩
      have hxb := cnt_le (now := now) (L := L) i q
      rw [hx] at hxb
      have hx0 := hxb.1
      have hx2 : x ≤ 1000000 := by omega
      have HX := Aside0.mk hx
      clear hlv hua ha hq hxb hx
      go_wp2_with (go_at_call 77; refine HLV.out.mono ?_; rintro e w1 ⟨rfl, hb1⟩; have hg1 := Aside0.mk (blk_below hG.out hb1); have hr1 := Aside0.mk (blk_below hR.out hb1); have q1 := blk_frozen hg1.out q; have q0 : w1.cell? ⟨g, q, none⟩ = some (.int .i64 x) := ((blk_cell hg1.out q).trans (lc7_at _ hq7)).trans (by rw [HX.out]))
      go_roundg (L.length - (i + 1))
      case measure => omega
      case rel =>
        refine ⟨i + 1, by go_num, by omega, Nat.le_refl _, ⟨?_⟩, ⟨?_⟩, ⟨below_set (below_step hB.out hb1) (Nat.le_of_lt HNE.out)⟩⟩
        · have h5 := blk_set hg1.out q (.int .i64 (x + 1))
          rw [lc7_set _ hq7] at h5
          rw [show lcells (cnt now L (i + 1)) 7 = lcells (fun j => if j = q then x + 1 else cnt now L i j) 7 from lc7_ext (fun j _ => by
            rw [hst.out j]
            by_cases e : j = q
            · rw [if_pos e, if_pos e, e, HX.out]
            · rw [if_neg e, if_neg e])]
          exact h5
        · exact ((Fr.set w1 g q (.int .i64 (x + 1))).blk w.heap.size (blk_lt hr1.out) (fun e => by have := HNE.out; have e2 : w.heap.size = g := e; omega)).trans hr1.out
    · obtain rfl : i = L.length := by omega
      have hi1 : ¬ (L.length : Int) < (L.length : Int) := by omega
      obtain ⟨f, hf⟩ : ∃ f, cnt now L L.length = f := ⟨_, rfl⟩
      have hfe : Aside0 (lcells (loadF now L) 7 = lcells f 7) := ⟨lc7_ext (fun j hj => by rw [← hf]; exact (cnt_all hj).symm)⟩
      rw [hf] at hG
      clear hf
      go_upto_region 6 with (fail)
      clear c0
      have y0 : wr.cell? ⟨g, 0, none⟩ = some (.int .i64 (f 0)) := (blk_cell hG.out 0).trans rfl
      have v0 : wr.cell? ⟨w.heap.size, 0, none⟩ = some (.int .i64 0) := (blk_cell hR.out 0).trans rfl
      have z0 := blk_frozen hR.out 0
      have y1 : wr.cell? ⟨g, 1, none⟩ = some (.int .i64 (f 1)) := (blk_cell hG.out 1).trans rfl
      have v1 : wr.cell? ⟨w.heap.size, 1, none⟩ = some (.int .i64 0) := (blk_cell hR.out 1).trans rfl
      have z1 := blk_frozen hR.out 1
      have y2 : wr.cell? ⟨g, 2, none⟩ = some (.int .i64 (f 2)) := (blk_cell hG.out 2).trans rfl
      have v2 : wr.cell? ⟨w.heap.size, 2, none⟩ = some (.int .i64 0) := (blk_cell hR.out 2).trans rfl
      have z2 := blk_frozen hR.out 2
      have y3 : wr.cell? ⟨g, 3, none⟩ = some (.int .i64 (f 3)) := (blk_cell hG.out 3).trans rfl
      have v3 : wr.cell? ⟨w.heap.size, 3, none⟩ = some (.int .i64 0) := (blk_cell hR.out 3).trans rfl
      have z3 := blk_frozen hR.out 3
      have y4 : wr.cell? ⟨g, 4, none⟩ = some (.int .i64 (f 4)) := (blk_cell hG.out 4).trans rfl
      have v4 : wr.cell? ⟨w.heap.size, 4, none⟩ = some (.int .i64 0) := (blk_cell hR.out 4).trans rfl
      have z4 := blk_frozen hR.out 4
      have y5 : wr.cell? ⟨g, 5, none⟩ = some (.int .i64 (f 5)) := (blk_cell hG.out 5).trans rfl
      have v5 : wr.cell? ⟨w.heap.size, 5, none⟩ = some (.int .i64 0) := (blk_cell hR.out 5).trans rfl
      have z5 := blk_frozen hR.out 5
      have y6 : wr.cell? ⟨g, 6, none⟩ = some (.int .i64 (f 6)) := (blk_cell hG.out 6).trans rfl
      have v6 : wr.cell? ⟨w.heap.size, 6, none⟩ = some (.int .i64 0) := (blk_cell hR.out 6).trans rfl
      have z6 := blk_frozen hR.out 6
      go_wp2
      rw [hfe.out]
      refine load_ret79 (f := f) (j := 7) rfl (load_set hR.out _ _ _ _ _ _ _) ⟨rfl, ?_⟩
      exact below_set (below_set (below_set (below_set (below_set (below_set (below_set hB.out (Nat.le_refl _)) (Nat.le_refl _)) (Nat.le_refl _)) (Nat.le_refl _)) (Nat.le_refl _)) (Nat.le_refl _)) (Nat.le_refl _)
end
end Go.Proofs.YtedolmjealgeoaaDoor.Wh
