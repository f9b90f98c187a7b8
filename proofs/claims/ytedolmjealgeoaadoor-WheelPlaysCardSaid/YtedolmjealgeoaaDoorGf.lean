/- Wheel.First as a call: the timer that is next. Conditions: the wheel lies in memory as told; the table's cells. -/
import Derived.Test.YtedolmjealgeoaaDoorGe
import Derived.Deep.RegionHeld3
import Derived.Laws.Cover3
import Derived.Test.YtedolmjealgeoaaDoorGa
import Derived.ChangeKeysEq
set_option linter.unusedVariables false
namespace Go.Proofs.YtedolmjealgeoaaDoor.Wh
open Go.RowKit Go.Maps Go.Proofs.YtedolmjealgeoaaDoor.PBase Go.Proofs.YtedolmjealgeoaaDoor.Cat Go.Proofs.YtedolmjealgeoaaDoor.Rg Go.Proofs.YtedolmjealgeoaaDoor.Tk Go.Proofs.YtedolmjealgeoaaDoorW.PrintWords Go.Proofs.YtedolmjealgeoaaDoorW.PrintLast Go.Proofs.YtedolmjealgeoaaDoorW.PrintMore
theorem head_cons (d : S31) (T : List S31) : (psort (d :: T)).head? = some (match (psort T).head? with | none => d | some b => if lt d b = true then d else b) := by
  have e1 : psort (d :: T) = psort (d :: psort T) := psort_congr ((psort_perm T).symm.cons d)
  have hs := psort_so T
  rw [e1]
  cases hc : psort T with
  | nil =>
    rw [psort_of (m := [d]) (List.pairwise_singleton _ _) (List.Perm.refl _)]
    rfl
  | cons b L =>
    rw [hc] at hs
    show (psort (d :: b :: L)).head? = some (if lt d b = true then d else b)
    cases hl : lt d b with
    | true =>
      rw [if_pos rfl, psort_of (m := d :: b :: L) ?_ (List.Perm.refl _)]
      · rfl
      · refine List.pairwise_cons.2 ⟨fun x hx => ?_, hs⟩
        rcases List.mem_cons.1 hx with rfl | hx
        · exact nb_of_lt hl
        · exact nb_trans (nb_of_lt hl) ((List.pairwise_cons.1 hs).1 x hx)
    | false =>
      rw [if_neg (by simp), psort_of (m := b :: psort (d :: L)) ?_ ?_]
      · rfl
      · refine List.pairwise_cons.2 ⟨fun x hx => ?_, psort_so _⟩
        rcases List.mem_cons.1 ((psort_perm _).mem_iff.1 hx) with rfl | hx
        · exact hl
        · exact (List.pairwise_cons.1 hs).1 x hx
      · exact ((psort_perm (d :: L)).cons b).trans (List.Perm.swap d b L)
/-- In a ring whose lower ones hold nothing, the first slot's first one is the first of all. -/
theorem first_low {now : Int} {V : List S31} (tt : TT now V) {j : Nat} (hj : ∀ i, i < j → rgT now V i = []) {s : Int} (hs : atS (rgT now V j) s ≠ []) (hl : ∀ s', 0 ≤ s' → s' < s → atS (rgT now V j) s' = []) : (psort V).head? = (psort (atS (rgT now V j) s)).head? := by
  rw [rg_at] at hs ⊢
  have hlow : ∀ d ∈ V, j ≤ lv d.f1 now := fun d hd => by
    rcases Nat.lt_or_ge (lv d.f1 now) j with h | h
    · have h2 := hj _ h
      have h3 : (⟨dg d.f1 (lv d.f1 now), d⟩ : S114) ∈ rgT now V (lv d.f1 now) := List.mem_map.2 ⟨d, List.mem_filter.2 ⟨hd, by simp⟩, rfl⟩
      rw [h2] at h3
      exact absurd h3 List.not_mem_nil
    · exact h
  refine head_filter (fun d => lv d.f1 now == j && dg d.f1 j == s) ?_ ?_
  · obtain ⟨x, hx⟩ := List.exists_mem_of_ne_nil _ hs
    exact ⟨x, (List.mem_filter.1 hx).1, (List.mem_filter.1 hx).2⟩
  · intro d hd e he h1 h2
    have h1a := Bool.and_eq_true_iff.1 h1
    have h3 : lv d.f1 now = j := by simpa using h1a.1
    have h4 : dg d.f1 j = s := by simpa using h1a.2
    rcases Nat.lt_or_eq_of_le (hlow e he) with h5 | h5
    · exact lv_lt (tt.u d hd) (tt.u e he) tt.un (tt.ge e he) (by omega)
    · have h6 : ¬ dg e.f1 j = s := fun e6 => by
        rw [← h5, e6] at h2
        simp at h2
      rcases Int.lt_trichotomy (dg e.f1 j) s with h7 | h7 | h7
      · have h8 := hl _ (dg_range _ _).1 h7
        rw [rg_at] at h8
        have h9 : e ∈ V.filter (fun d => lv d.f1 now == j && dg d.f1 j == dg e.f1 j) := List.mem_filter.2 ⟨he, by simp [h5.symm]⟩
        rw [h8] at h9
        exact absurd h9 List.not_mem_nil
      · exact absurd h7 h6
      · exact dg_lt (tt.u d hd) (tt.u e he) tt.un h3 h5.symm (by omega)
theorem far_all {now : Int} {V : List S31} (h : ∀ i, i < 6 → rgT now V i = []) : farT now V = V := List.filter_eq_self.2 (fun d hd => by
  rcases Nat.lt_or_ge (lv d.f1 now) 6 with h1 | h1
  · have h2 := h _ h1
    have h3 : (⟨dg d.f1 (lv d.f1 now), d⟩ : S114) ∈ rgT now V (lv d.f1 now) := List.mem_map.2 ⟨d, List.mem_filter.2 ⟨hd, by simp⟩, rfl⟩
    rw [h2] at h3
    exact absurd h3 List.not_mem_nil
  · simpa using h1)
/-- What First of a ring tells: nothing, or the lowest slot that holds something. -/
theorem first_told {T : List S114} (p : PT T) {fu : Int} {r : Int × Bool} (hh : ∀ j : Nat, j < 64 → Mk.hs fu j = decide (atS T j ≠ [])) (hr : Mk.IsRound fu 0 r) : (r = (0, false) ∧ T = []) ∨ ∃ s : Nat, r = ((s : Int), true) ∧ s < 64 ∧ atS T (s : Int) ≠ [] ∧ ∀ s' : Int, 0 ≤ s' → s' < s → atS T s' = [] := by
  unfold Mk.IsRound at hr
  rw [if_pos (by omega)] at hr
  obtain ⟨s, hs, hr⟩ := hr
  have key : Mk.IsNext fu 0 r := by
    split at hr
    · rw [hr]; exact hs
    · exact hr
  rcases key with ⟨h1, h2, h3, h4, h5⟩ | ⟨h1, h2⟩
  · obtain ⟨n, hn⟩ : ∃ n : Nat, r.1 = (n : Int) := ⟨r.1.toNat, by omega⟩
    rw [hn] at h4 h5
    have hn64 : n < 64 := by
      unfold Mk.hs at h4
      simp at h4
      omega
    refine .inr ⟨n, by rw [← h1, ← hn], hn64, ?_, fun s' g1 g2 => ?_⟩
    · rw [hh n hn64] at h4
      simpa using h4
    · obtain ⟨m, rfl⟩ : ∃ m : Nat, s' = (m : Int) := ⟨s'.toNat, by omega⟩
      have h6 := h5 m (by omega) (by omega) g2
      rw [hh m (by omega)] at h6
      simpa using h6
  · refine .inl ⟨h1, List.eq_nil_iff_forall_not_mem.2 (fun l hl => ?_)⟩
    have h3 := p.sl l hl
    obtain ⟨m, hm⟩ : ∃ m : Nat, l.f0 = (m : Int) := ⟨l.f0.toNat, by omega⟩
    have h4 := h2 m (by omega) (by omega)
    rw [hh m (by omega)] at h4
    have h5 : atS T (m : Int) = [] := by simpa using h4
    have h6 : l.f1 ∈ atS T (m : Int) := List.mem_map.2 ⟨l, List.mem_filter.2 ⟨hl, by simp [hm]⟩, rfl⟩
    rw [h5] at h6
    exact absurd h6 List.not_mem_nil
end Go.Proofs.YtedolmjealgeoaaDoor.Wh

set_option linter.unusedVariables false
namespace Go.Proofs.YtedolmjealgeoaaDoor.Wh
open Go.RowKit Go.Maps Go.Proofs.YtedolmjealgeoaaDoor.PBase Go.Proofs.YtedolmjealgeoaaDoor.Cat Go.Proofs.YtedolmjealgeoaaDoor.Rg Go.Proofs.YtedolmjealgeoaaDoor.Tk Go.Proofs.YtedolmjealgeoaaDoorW.PrintWords Go.Proofs.YtedolmjealgeoaaDoorW.PrintLast Go.Proofs.YtedolmjealgeoaaDoorW.PrintMore
theorem run_index122 (rs : Nat → Nat) {k : Nat} (hk : k < 6) (w : World) : (Instr.index 122 (.agg #[ptr (rs 0), ptr (rs 1), ptr (rs 2), ptr (rs 3), ptr (rs 4), ptr (rs 5)]) (.int .i64 (k : Int))).run Tryd.prog w = .ok (ptr (rs k)) w := by
  have h : k = 0 ∨ k = 1 ∨ k = 2 ∨ k = 3 ∨ k = 4 ∨ k = 5 := by omega
  rcases h with rfl | rfl | rfl | rfl | rfl | rfl <;> simp [Instr.index, run_underlying Tryd.underlying122, asIntOf, go_sem]
theorem len_pos (x : S31) (M : List S31) : (0 : Int) < ((x :: M).length : Int) := by
  rw [List.length_cons]
  omega
theorem psort_cons {T : List S31} (h : T ≠ []) : ∃ x M, psort T = x :: M := by
  refine List.exists_cons_of_ne_nil (fun e => h ?_)
  have h2 := (psort_perm T).symm
  rw [e] at h2
  exact h2.eq_nil
/-- The results of First, Pop: a timer that lies in a block, and whether there is one. -/
theorem due_ret38 {Q : Ending → World → Prop} {tmps : Array Value} {W : World} {x : S31} {b : Bool} {g : Nat} (hg : tmps.getD 2 undef = .pointer (some ⟨g, 0, none⟩)) (he : tmps.getD 3 undef = .bool b) (hb : W.heap[g]? = some (.cells #[.int .i64 x.f0, .int .u64 x.f1] 31 (0, 0))) (hQ : Q (.returned (.tuple #[.agg #[.int .i64 x.f0, .int .u64 x.f1], .bool b])) W) : bodyPost Tryd.prog Tryd.f38 Q Exit.ret { tmps := tmps, defers := [] } W :=
  bodyPost_ret (v := .tuple #[.agg #[.int .i64 x.f0, .int .u64 x.f1], .bool b]) (by rw [← he]; exact results_ct (fn := Tryd.f38) rfl tmps W g 31 _ (0, 0) _ hg hb Tryd.underlying31 rfl (by kernel_rfl)) rfl hQ
theorem due_ret39 {Q : Ending → World → Prop} {tmps : Array Value} {W : World} {x : S31} {b : Bool} {g : Nat} (hg : tmps.getD 4 undef = .pointer (some ⟨g, 0, none⟩)) (he : tmps.getD 5 undef = .bool b) (hb : W.heap[g]? = some (.cells #[.int .i64 x.f0, .int .u64 x.f1] 31 (0, 0))) (hQ : Q (.returned (.tuple #[.agg #[.int .i64 x.f0, .int .u64 x.f1], .bool b])) W) : bodyPost Tryd.prog Tryd.f39 Q Exit.ret { tmps := tmps, defers := [] } W :=
  bodyPost_ret (v := .tuple #[.agg #[.int .i64 x.f0, .int .u64 x.f1], .bool b]) (by rw [← he]; exact results_ct (fn := Tryd.f39) rfl tmps W g 31 _ (0, 0) _ hg hb Tryd.underlying31 rfl (by kernel_rfl)) rfl hQ
/-- A timer stored into a block of two cells. -/
theorem due_set {W : World} {g : Nat} {a b : Value} (h : W.heap[g]? = some (.cells #[a, b] 31 (0, 0))) (x : S31) : ((W.setCell ⟨g, 0, none⟩ (.int .i64 x.f0)).setCell ⟨g, 1, none⟩ (.int .u64 x.f1)).heap[g]? = some (.cells #[.int .i64 x.f0, .int .u64 x.f1] 31 (0, 0)) := by
  have h1 := blk_set h 0 (.int .i64 x.f0)
  exact blk_set h1 1 (.int .u64 x.f1)
theorem first_nil (W : World) : Calls Tryd.prog 38 #[.pointer none] W fun e w' => e = .returned (.tuple #[.agg #[.int .i64 0, .int .u64 0], .bool false]) ∧ Below W.heap.size W w' := by
  have hb := below_alloc (Below.refl W.heap.size W) (.cells #[.int .i64 0, .int .u64 0] 31)
  go_enter Tryd.func38, Tryd.ntmps38
  have hx := blk_new W (.cells #[.int .i64 0, .int .u64 0] 31)
  have z0 := (blk_cell hx 0).trans rfl
  have z1 := (blk_cell hx 1).trans rfl
  have f0 := blk_frozen hx 0
  have f1 := blk_frozen hx 1
  go_wp2
  exact due_ret38 (x := ⟨0, 0⟩) rfl rfl hx ⟨rfl, hb⟩
section
variable {N : Nat} {F : Nat → Prop} {W W' : World} {B : Nat} {now t : Int} {T V : List S31}
set_option maxHeartbeats 8000000 in
set_option maxRecDepth 100000 in
theorem first_W (h : WI N F W B now V V) (hT : TB N W) (tt : TT now V) (hlen : V.length ≤ 90000) (r : Option S31) (hr : (psort V).head? = r) : Calls Tryd.prog 38 #[ptr B] W fun e w' => e = .returned (.tuple #[.agg #[.int .i64 (r.getD ⟨0, 0⟩).f0, .int .u64 (r.getD ⟨0, 0⟩).f1], .bool r.isSome]) ∧ Below W.heap.size W w' := by
  have hbx := below_alloc (Below.refl W.heap.size W) (.cells #[.int .i64 0, .int .u64 0] 31)
  have hx := blk_new W (.cells #[.int .i64 0, .int .u64 0] 31)
  have HT := Aside0.mk hT
  have HTT := Aside0.mk tt
  have HN := Aside0.mk hlen
  have HR := Aside0.mk hr
  obtain ⟨fm, am, rs, Fs, h⟩ := h
  have hX := Aside0.mk h
  have hXx := h.step hbx
  have c1 : (W.alloc (.cells #[.int .i64 0, .int .u64 0] 31)).cell? ⟨B, 1, none⟩ = some (ptr (rs 0)) := (blk_cell hXx.blk 1).trans rfl
  have c2 : (W.alloc (.cells #[.int .i64 0, .int .u64 0] 31)).cell? ⟨B, 2, none⟩ = some (ptr (rs 1)) := (blk_cell hXx.blk 2).trans rfl
  have c3 : (W.alloc (.cells #[.int .i64 0, .int .u64 0] 31)).cell? ⟨B, 3, none⟩ = some (ptr (rs 2)) := (blk_cell hXx.blk 3).trans rfl
  have c4 : (W.alloc (.cells #[.int .i64 0, .int .u64 0] 31)).cell? ⟨B, 4, none⟩ = some (ptr (rs 3)) := (blk_cell hXx.blk 4).trans rfl
  have c5 : (W.alloc (.cells #[.int .i64 0, .int .u64 0] 31)).cell? ⟨B, 5, none⟩ = some (ptr (rs 4)) := (blk_cell hXx.blk 5).trans rfl
  have c6 : (W.alloc (.cells #[.int .i64 0, .int .u64 0] 31)).cell? ⟨B, 6, none⟩ = some (ptr (rs 5)) := (blk_cell hXx.blk 6).trans rfl
  clear h hT tt hlen hr hXx
  go_enter Tryd.func38, Tryd.ntmps38
  go_wp2
  have HX := Aside0.mk hx
  have HB := Aside0.mk hbx
  clear c1 c2 c3 c4 c5 c6 hx hbx
  generalize W.alloc (.cells #[.int .i64 0, .int .u64 0] 31) = Wx at HX HB ⊢
  go_loopg [19] 7 (fun gk v19 wr => ∃ j : Nat, v19 = .int .i64 j ∧ j ≤ 6 ∧ 6 - j ≤ gk ∧ Aside0 (∀ i, i < j → rgT now V i = []) ∧ Aside0 (Below Wx.heap.size Wx wr))
  case atStart => exact ⟨0, rfl, by omega, by omega, ⟨fun i hi => absurd hi (Nat.not_lt_zero i)⟩, ⟨Below.refl _ _⟩⟩
  case round =>
    obtain ⟨j, rfl, hj, hgg, hE, hBw⟩ := hrel
    by_cases hlt : j < 6
    · have hj0 : (0 : Int) ≤ (j : Int) := by omega
      have hj1 : (j : Int) < 6 := by omega
      have hix := run_index122 rs hlt
      have hbw : Aside0 (Below W.heap.size W wr) := ⟨below_step HB.out hBw.out⟩
      have hFi := Aside0.mk (first_calls (((hX.out.ring j hlt).step hbw.out)) (HT.out.step hbw.out).tab 0)
      go_wp2_with (first
        | (go_at_call 26; refine hFi.out.mono ?_; rintro e w1 ⟨fu, r1, rfl, hU, hh, hi, hb1⟩; replace hh := Aside0.mk hh; have hto := first_told (hX.out.ring j hlt).pt hh.out hi; clear hi; rcases hto with ⟨rfl, hemp⟩ | ⟨s, rfl, hs64, hne, hmin⟩)
        | (go_at_call 22; go_loud (refine (list_calls ((hX.out.ring j hlt).step (below_step hbw.out hb1)) s hs64 (by have := rg_len now V j; have := HN.out; omega)).mono ?_; rintro e w2 ⟨v, rfl, hRv, hb2⟩; obtain ⟨x, M, hM⟩ := psort_cons hne; rw [hM] at hRv; obtain ⟨A, c, rfl, hc, hC⟩ := Kd.R_reads hRv; obtain ⟨ad, e1, x0, x1⟩ := at_T31 hC 0 (by omega) (len_pos x M); subst e1; replace x0 : w2.cell? ad = some (.int .i64 x.f0) := x0; replace x1 : w2.cell? ⟨ad.block, ad.off + 1, none⟩ = some (.int .u64 x.f1) := x1; have hl0 : (0 : Int) < ((x :: M).length : Int) := len_pos x M; have hg2 := Aside0.mk (blk_below (blk_below (blk_below HX.out hBw.out) hb1) hb2); have z0 := (blk_cell hg2.out 0).trans rfl; have z1 := (blk_cell hg2.out 1).trans rfl; have f0 := blk_frozen hg2.out 0; have f1 := blk_frozen hg2.out 1)))
      · go_roundg (6 - (j + 1))
        case measure => omega
        case rel =>
          refine ⟨j + 1, by go_num, by omega, Nat.le_refl _, ⟨fun i hi => ?_⟩, ⟨below_step hBw.out hb1⟩⟩
          rcases Nat.lt_or_eq_of_le (Nat.le_of_lt_succ hi) with h1 | rfl
          · exact hE.out i h1
          · exact hemp
      · have hfl := first_low HTT.out hE.out hne hmin
        rw [HR.out, hM] at hfl
        subst hfl
        exact due_ret38 (x := x) rfl rfl (due_set hg2.out x) ⟨rfl, below_set (below_set (below_step (below_step hbw.out hb1) hb2) (Nat.le_refl _)) (Nat.le_refl _)⟩
    · obtain rfl : j = 6 := by omega
      have hbw : Aside0 (Below W.heap.size W wr) := ⟨below_step HB.out hBw.out⟩
      have hby := below_alloc (Below.refl wr.heap.size wr) (.cells #[.int .i64 0, .int .u64 0] 31)
      have hgb := Aside0.mk (blk_new wr (.cells #[.int .i64 0, .int .u64 0] 31))
      have hXy := (hX.out.step hbw.out).step hby
      have c7 : (wr.alloc (.cells #[.int .i64 0, .int .u64 0] 31)).cell? ⟨B, 7, none⟩ = some (.map (some fm)) := (blk_cell hXy.blk 7).trans rfl
      have hMo := hXy.far
      rw [far_all hE.out] at hMo
      obtain ⟨n, D, hown, hhas, hat0, hsz⟩ := hMo
      have Hhas := Aside0.mk hhas
      have Hat := Aside0.mk hat0
      have Hsz := Aside0.mk hsz
      have hRy := Aside0.mk (blk_below (blk_below HX.out hBw.out) hby)
      have hBy := Aside0.mk (below_step hbw.out hby)
      have hgW : Aside0 (W.heap.size ≤ wr.heap.size) := ⟨hbw.out.size⟩
      have hgsz : Aside0 (wr.heap.size < (wr.alloc (.cells #[.int .i64 0, .int .u64 0] 31)).heap.size) := ⟨blk_lt hgb.out⟩
      clear hhas hat0 hsz hXy hby hE
      go_upto_region 12 with (fail)
      obtain ⟨g, hg⟩ : ∃ g, wr.heap.size = g := ⟨_, rfl⟩
      rw [hg] at hgb hgW hgsz ⊢
      generalize wr.alloc (.cells #[.int .i64 0, .int .u64 0] 31) = Wy at hgb c7 hown hRy hBy hgsz ⊢
      go_wp2_with (at_range; refine wpList_range_own _ rfl _ 123 rfl 3 29 law3 Tryd.underlying123 _ fm n D rfl hown ?_; intro w4 hrg4 hg4 hs4)
      go_frame
      have hR4 := Aside0.mk hrg4
      have hb4 : Aside0 (Below W.heap.size W w4) := ⟨hBy.out.grown hg4 hBy.out.size (fun k e => by cases e)⟩
      have hgb4 := Aside0.mk (blk_grown hgb.out hg4 (fun e => by cases e))
      have hRy4 := Aside0.mk (blk_grown hRy.out hg4 (fun e => by cases e))
      clear hrg4 hg4 hs4 hown c7
      have hry : Aside0 (W.heap.size ≤ Wy.heap.size ∧ g ≠ Wy.heap.size ∧ W.heap.size ≠ Wy.heap.size) := ⟨hBy.out.size, by have := hgsz.out; omega, by have := hgsz.out; have := hgW.out; omega⟩
      obtain ⟨ry, hrye⟩ : ∃ ry, Wy.heap.size = ry := ⟨_, rfl⟩
      rw [hrye] at hR4 hry ⊢
      go_loopg [9] V.length (fun gk v9 wq => ∃ (left : Lit → Bool) (cnt : Nat) (T : List S31) (x : S31), v9 = .bool (psort T).head?.isSome ∧ cnt ≤ gk ∧ Aside0 (wq.ranges Tryd.prog 3 (plainElem Tryd.prog 29) fm ry n D left cnt) ∧ Aside0 (Seen V T left cnt) ∧ Aside0 (wq.heap[g]? = some (.cells #[.int .i64 x.f0, .int .u64 x.f1] 31 (0, 0))) ∧ Aside0 (x = (psort T).head?.getD ⟨0, 0⟩) ∧ Aside0 (wq.heap[W.heap.size]? = some (.cells #[.int .i64 0, .int .u64 0] 31 (0, 0))) ∧ Aside0 (Below W.heap.size W wq))
      case atStart => exact ⟨_, _, [], ⟨0, 0⟩, by simp [psort], by rw [Hsz.out]; exact Nat.le_refl _, hR4, ⟨Seen.start Hhas.out HTT.out.nd Hsz.out⟩, hgb4, ⟨by simp [psort]⟩, hRy4, hb4⟩
      case round =>
        obtain ⟨left, cnt, T, x, rfl, hgg2, hR, hSe, hG, hx, hW0, hBq⟩ := hrel
        have hgWne : Aside0 (W.heap.size ≠ g) := ⟨fun e => by have := (Array.getElem?_eq_some_iff.1 HX.out).1; have h3 := hBw.out.size; omega⟩
        have hgf := Aside0.mk (And.intro (blk_lt hG.out) (blk_lt hW0.out))
        obtain ⟨hd, hhd⟩ : ∃ hd, (psort T).head? = hd := ⟨_, rfl⟩
        have HH := Aside0.mk hhd
        have hxx := hx.out
        rw [hhd] at hxx ⊢
        clear hhd hx
        have hdone : Aside0 ((∀ kl, left kl = false) → hd = r) := ⟨fun hl => by rw [← HH.out, ← HR.out, psort_congr (hSe.out.done HTT.out.nd hl)]⟩
        have y0 : wr.cell? ⟨g, 0, none⟩ = some (.int .i64 x.f0) := (blk_cell hG.out 0).trans rfl
        have y1 : wr.cell? ⟨g, 1, none⟩ = some (.int .u64 x.f1) := (blk_cell hG.out 1).trans rfl
        have v0 : wr.cell? ⟨W.heap.size, 0, none⟩ = some (.int .i64 0) := (blk_cell hW0.out 0).trans rfl
        have v1 : wr.cell? ⟨W.heap.size, 1, none⟩ = some (.int .u64 0) := (blk_cell hW0.out 1).trans rfl
        have v2 := blk_frozen hW0.out 0
        have v3 := blk_frozen hW0.out 1
        have hxd : Aside0 (x = hd.getD ⟨0, 0⟩) := ⟨hxx⟩
        clear hxx
        cases hd with
        | none =>
          simp only [Option.isSome_none]
          go_upto_region 15 with (at_next; refine wpList_next_ranges_ii _ rfl _ rfl 3 29 .i64 .u64 law3 Tryd.underlying3 Tryd.underlying29 fm ry n _ _ _ rfl hR.out (fun hc0 hl0 => ?_) (fun y c w5 cnt1 hwx hwc hlx hat1 hrg5 hlt5 hg5 hs5 hen => ?_))
          · have hre := hdone.out hl0
            subst hre
            have hxe := hxd.out
            refine due_ret38 (x := x) rfl rfl (due_set hW0.out x) ⟨?_, below_set (below_set hBq.out (Nat.le_refl _)) (Nat.le_refl _)⟩
            rw [hxe]
            rfl
          · have hG5 := Aside0.mk (blk_grown hG.out hg5 (fun e => hry.out.2.1 (Option.some.inj e)))
            have hW5 := Aside0.mk (blk_grown hW0.out hg5 (fun e => hry.out.2.2 (Option.some.inj e)))
            have hB5 : Aside0 (Below W.heap.size W w5) := ⟨hBq.out.grown hg5 hBq.out.size (fun k e => Option.some.inj e ▸ hry.out.1)⟩
            have hR5 := Aside0.mk hrg5
            have hS5 := Aside0.mk (hSe.out.step HTT.out.nd hlx (entry_in hat1 (hSe.out.was y hlx) Hat.out) hlt5).1
            have hgm : Aside0 (g ≠ fm ∧ g ≠ ry) := ⟨fun e => by have := (hX.out.lt _ hX.out.ffm).2; have := hgW.out; omega, hry.out.2.1⟩
            have z0 : w5.cell? ⟨g, 0, none⟩ = some (.int .i64 x.f0) := (blk_cell hG5.out 0).trans rfl
            have z1 : w5.cell? ⟨g, 1, none⟩ = some (.int .u64 x.f1) := (blk_cell hG5.out 1).trans rfl
            have f0 := blk_frozen hG5.out 0
            have f1 := blk_frozen hG5.out 1
            clear hrg5 hg5 hs5 hat1
            go_wp2
            go_roundg cnt1
            case measure => omega
            case rel =>
              have hf := ((Fr.set w5 g 0 (.int .i64 y)).trans (Fr.set (w5.setCell ⟨g, 0, none⟩ (.int .i64 y)) g 1 (.int .u64 c)))
              have hhd2 := head_cons ⟨y, c⟩ T
              rw [HH.out] at hhd2
              replace hhd2 : (psort (⟨y, c⟩ :: T)).head? = some ⟨y, c⟩ := hhd2
              refine ⟨_, cnt1, ⟨y, c⟩ :: T, ⟨y, c⟩, by rw [hhd2]; rfl, Nat.le_refl _, ⟨ranges_keep hR5.out (hf.blk fm hR5.out.owns.lt (fun e => hgm.out.1 e.symm)) (hf.blk ry hR5.out.lt (fun e => hgm.out.2 e.symm))⟩, hS5, ⟨due_set hG5.out ⟨y, c⟩⟩, ⟨by rw [hhd2]; rfl⟩, ⟨(hf.blk W.heap.size (blk_lt hW5.out) (fun e => hgWne.out e)).trans hW5.out⟩, ⟨below_set (below_set hB5.out hgW.out) hgW.out⟩⟩
        | some b =>
          simp only [Option.isSome_some]
          obtain rfl : x = b := hxd.out
          go_upto_region 15 with (at_next; refine wpList_next_ranges_ii _ rfl _ rfl 3 29 .i64 .u64 law3 Tryd.underlying3 Tryd.underlying29 fm ry n _ _ _ rfl hR.out (fun hc0 hl0 => ?_) (fun y c w5 cnt1 hwx hwc hlx hat1 hrg5 hlt5 hg5 hs5 hen => ?_))
          · have hre := hdone.out hl0
            subst hre
            exact due_ret38 (x := x) rfl rfl (due_set hW0.out x) ⟨rfl, below_set (below_set hBq.out (Nat.le_refl _)) (Nat.le_refl _)⟩
          · have hG5 := Aside0.mk (blk_grown hG.out hg5 (fun e => hry.out.2.1 (Option.some.inj e)))
            have hW5 := Aside0.mk (blk_grown hW0.out hg5 (fun e => hry.out.2.2 (Option.some.inj e)))
            have hB5 : Aside0 (Below W.heap.size W w5) := ⟨hBq.out.grown hg5 hBq.out.size (fun k e => Option.some.inj e ▸ hry.out.1)⟩
            have hR5 := Aside0.mk hrg5
            have hS5 := Aside0.mk (hSe.out.step HTT.out.nd hlx (entry_in hat1 (hSe.out.was y hlx) Hat.out) hlt5).1
            have hgm : Aside0 (g ≠ fm ∧ g ≠ ry) := ⟨fun e => by have := (hX.out.lt _ hX.out.ffm).2; have := hgW.out; omega, hry.out.2.1⟩
            have z0 : w5.cell? ⟨g, 0, none⟩ = some (.int .i64 x.f0) := (blk_cell hG5.out 0).trans rfl
            have z1 : w5.cell? ⟨g, 1, none⟩ = some (.int .u64 x.f1) := (blk_cell hG5.out 1).trans rfl
            have f0 := blk_frozen hG5.out 0
            have f1 := blk_frozen hG5.out 1
            clear hrg5 hg5 hs5 hat1
            by_cases q1 : c < x.f1
            · go_wp2
              go_roundg cnt1
              case measure => omega
              case rel =>
                have hf := ((Fr.set w5 g 0 (.int .i64 y)).trans (Fr.set (w5.setCell ⟨g, 0, none⟩ (.int .i64 y)) g 1 (.int .u64 c)))
                have hhd2 := head_cons ⟨y, c⟩ T
                rw [HH.out] at hhd2
                replace hhd2 : (psort (⟨y, c⟩ :: T)).head? = some (if lt ⟨y, c⟩ x = true then ⟨y, c⟩ else x) := hhd2
                rw [show lt ⟨y, c⟩ x = true from (lt_iff _ _).2 (.inl q1), if_pos rfl] at hhd2
                refine ⟨_, cnt1, ⟨y, c⟩ :: T, ⟨y, c⟩, by rw [hhd2]; rfl, Nat.le_refl _, ⟨ranges_keep hR5.out (hf.blk fm hR5.out.owns.lt (fun e => hgm.out.1 e.symm)) (hf.blk ry hR5.out.lt (fun e => hgm.out.2 e.symm))⟩, hS5, ⟨due_set hG5.out ⟨y, c⟩⟩, ⟨by rw [hhd2]; rfl⟩, ⟨(hf.blk W.heap.size (blk_lt hW5.out) (fun e => hgWne.out e)).trans hW5.out⟩, ⟨below_set (below_set hB5.out hgW.out) hgW.out⟩⟩
            · by_cases q2 : c = x.f1
              · subst q2
                by_cases q3 : y < x.f0
                · go_wp2
                  go_roundg cnt1
                  case measure => omega
                  case rel =>
                    have hf := ((Fr.set w5 g 0 (.int .i64 y)).trans (Fr.set (w5.setCell ⟨g, 0, none⟩ (.int .i64 y)) g 1 (.int .u64 x.f1)))
                    have hhd2 := head_cons ⟨y, x.f1⟩ T
                    rw [HH.out] at hhd2
                    replace hhd2 : (psort (⟨y, x.f1⟩ :: T)).head? = some (if lt ⟨y, x.f1⟩ x = true then ⟨y, x.f1⟩ else x) := hhd2
                    rw [show lt ⟨y, x.f1⟩ x = true from (lt_iff _ _).2 (.inr ⟨rfl, q3⟩), if_pos rfl] at hhd2
                    refine ⟨_, cnt1, ⟨y, x.f1⟩ :: T, ⟨y, x.f1⟩, by rw [hhd2]; rfl, Nat.le_refl _, ⟨ranges_keep hR5.out (hf.blk fm hR5.out.owns.lt (fun e => hgm.out.1 e.symm)) (hf.blk ry hR5.out.lt (fun e => hgm.out.2 e.symm))⟩, hS5, ⟨due_set hG5.out ⟨y, x.f1⟩⟩, ⟨by rw [hhd2]; rfl⟩, ⟨(hf.blk W.heap.size (blk_lt hW5.out) (fun e => hgWne.out e)).trans hW5.out⟩, ⟨below_set (below_set hB5.out hgW.out) hgW.out⟩⟩
                · go_wp2
                  go_roundg cnt1
                  case measure => omega
                  case rel =>
                    have hhd2 := head_cons ⟨y, x.f1⟩ T
                    rw [HH.out] at hhd2
                    replace hhd2 : (psort (⟨y, x.f1⟩ :: T)).head? = some (if lt ⟨y, x.f1⟩ x = true then ⟨y, x.f1⟩ else x) := hhd2
                    rw [show lt ⟨y, x.f1⟩ x = false from (lt_false _ _).2 (fun e => by have e2 : x.f1 < x.f1 ∨ (x.f1 = x.f1 ∧ y < x.f0) := e; omega), if_neg (by simp)] at hhd2
                    exact ⟨_, cnt1, ⟨y, x.f1⟩ :: T, x, by rw [hhd2]; rfl, Nat.le_refl _, hR5, hS5, hG5, ⟨by rw [hhd2]; rfl⟩, hW5, hB5⟩
              · have q2a : (c == x.f1) = false := beq_eq_false_iff_ne.mpr q2
                go_wp2
                go_roundg cnt1
                case measure => omega
                case rel =>
                  have hhd2 := head_cons ⟨y, c⟩ T
                  rw [HH.out] at hhd2
                  replace hhd2 : (psort (⟨y, c⟩ :: T)).head? = some (if lt ⟨y, c⟩ x = true then ⟨y, c⟩ else x) := hhd2
                  rw [show lt ⟨y, c⟩ x = false from (lt_false _ _).2 (fun e => by have e2 : c < x.f1 ∨ (c = x.f1 ∧ y < x.f0) := e; omega), if_neg (by simp)] at hhd2
                  exact ⟨_, cnt1, ⟨y, c⟩ :: T, x, by rw [hhd2]; rfl, Nat.le_refl _, hR5, hS5, hG5, ⟨by rw [hhd2]; rfl⟩, hW5, hB5⟩
end
end Go.Proofs.YtedolmjealgeoaaDoor.Wh

set_option linter.unusedVariables false
namespace Go.Proofs.YtedolmjealgeoaaDoor.Wh
open Go.RowKit Go.Maps Go.Proofs.YtedolmjealgeoaaDoor.PBase Go.Proofs.YtedolmjealgeoaaDoor.Cat Go.Proofs.YtedolmjealgeoaaDoor.Rg Go.Proofs.YtedolmjealgeoaaDoor.Tk Go.Proofs.YtedolmjealgeoaaDoorW.PrintWords Go.Proofs.YtedolmjealgeoaaDoorW.PrintLast Go.Proofs.YtedolmjealgeoaaDoorW.PrintMore
theorem rm_perm {T V : List S31} (p : T.Perm V) (id : Int) : (rm T id).Perm (rm V id) := p.filter _
theorem rm_head {d : S31} {L : List S31} (h : (ids (d :: L)).Nodup) : rm (d :: L) d.f0 = L := by
  have h2 := rm_none (List.nodup_cons.1 h).1
  unfold rm at h2 ⊢
  rw [List.filter_cons_of_neg (by simp)]
  exact h2
/-- What is left behind the first one. -/
structure Tail (now : Int) (V : List S31) (d : S31) (L : List S31) : Prop where
  mem : d ∈ V
  tof : tof V d.f0 = some d.f1
  rm : (Rg.rm V d.f0).Perm L
  tt : TT d.f1 L
  le : now ≤ d.f1
  ge : ∀ e ∈ Rg.rm V d.f0, d.f1 ≤ e.f1
  so : psort L = L
theorem tail_of {now : Int} {V : List S31} (tt : TT now V) {d : S31} {L : List S31} (hp : psort V = d :: L) : Tail now V d L := by
  have p : V.Perm (d :: L) := hp ▸ (psort_perm V).symm
  have hd : d ∈ V := p.mem_iff.2 List.mem_cons_self
  have t2 := tt.perm p
  have so : So (d :: L) := hp ▸ psort_so V
  have hr : (Rg.rm V d.f0).Perm L := by
    have h3 := rm_perm p d.f0
    rw [rm_head t2.nd] at h3
    exact h3
  have hge : ∀ e ∈ L, d.f1 ≤ e.f1 := fun e he => by
    have := (List.pairwise_cons.1 so).1 e he
    rw [nb_iff] at this
    omega
  exact ⟨hd, tof_mem tt.nd hd, hr, ⟨(List.nodup_cons.1 t2.nd).2, fun e he => t2.wf e (List.mem_cons_of_mem _ he), fun e he => t2.u e (List.mem_cons_of_mem _ he), hge, tt.u d hd⟩, tt.ge d hd, fun e he => hge e (hr.mem_iff.1 he), psort_of (List.pairwise_cons.1 so).2 (List.Perm.refl _)⟩
theorem WGo.foot {N : Nat} {F : Nat → Prop} {W W' : World} {B : Nat} {now : Int} {T V : List S31} (h : WGo N F W W' B now T V) {b : Nat} (hb : b < W.heap.size) (hF : ¬ F b) : W'.heap[b]? = W.heap[b]? := by
  obtain ⟨F2, _, _, k3⟩ := h
  exact k3.blk b hb hF
/-- A result stored into a block of the call's own. -/
theorem WGo.due {N : Nat} {F : Nat → Prop} {W W1 W2 : World} {B : Nat} {now now' : Int} {T V T' V' : List S31} (hb : Below W.heap.size W W1) (H : WI N F W B now' T' V') (hg : WGo N F W1 W2 B now T V) (hs : W.heap.size < W1.heap.size) (a b : Value) : WGo N F W ((W2.setCell ⟨W.heap.size, 0, none⟩ a).setCell ⟨W.heap.size, 1, none⟩ b) B now T V := by
  obtain ⟨F', h1, h2, h3⟩ := hg
  have hFs := (Fr.set W2 W.heap.size 0 a).trans (Fr.set (W2.setCell ⟨W.heap.size, 0, none⟩ a) W.heap.size 1 b)
  refine ⟨F', h1.keep hFs (fun k hk e => ?_), fun k hk => ?_, Fr.then_ ((Fr.of_below hb).trans h3) hFs (fun k hk => .inr (Nat.le_of_eq (show W.heap.size = k from Eq.symm hk)))⟩
  · have e2 : k = W.heap.size := e
    subst e2
    rcases h2 _ hk with e | e
    · exact Nat.lt_irrefl _ (H.lt _ e).2
    · omega
  · rcases h2 k hk with e | e
    · exact .inl e
    · exact .inr (Nat.le_trans hb.size e)
section
variable {N : Nat} {F : Nat → Prop} {W W' : World} {B : Nat} {now t : Int} {T V : List S31}
theorem pop_nil (W : World) (t : Int) : Calls Tryd.prog 39 #[.pointer none, .int .u64 t] W fun e w' => e = .returned (.tuple #[.agg #[.int .i64 0, .int .u64 0], .bool false]) ∧ Below W.heap.size W w' := by
  have hb := below_alloc (Below.refl W.heap.size W) (.cells #[.int .i64 0, .int .u64 0] 31)
  have hx := Aside0.mk (blk_new W (.cells #[.int .i64 0, .int .u64 0] 31))
  have HB := Aside0.mk hb
  clear hb
  go_enter Tryd.func39, Tryd.ntmps39
  go_wp2_with (go_at_call 38; refine (first_nil _).mono ?_; rintro e w1 ⟨rfl, hb1⟩; have hx1 := Aside0.mk (blk_alloc (blk_below hx.out hb1) (.cells #[.int .i64 0, .int .u64 0] 31)); have z0 := (blk_cell hx1.out 0).trans rfl; have z1 := (blk_cell hx1.out 1).trans rfl; have f0 := blk_frozen hx1.out 0; have f1 := blk_frozen hx1.out 1)
  exact due_ret39 (x := ⟨0, 0⟩) rfl rfl (due_set hx1.out ⟨0, 0⟩) ⟨rfl, below_set (below_set (below_alloc (below_step HB.out hb1) _) (Nat.le_refl _)) (Nat.le_refl _)⟩
set_option maxHeartbeats 8000000 in
set_option maxRecDepth 100000 in
theorem pop_yes (h : WI N F W B now V V) (hT : TB N W) (tt : TT now V) (hlen : V.length ≤ 90000) {d : S31} {L : List S31} (hp : psort V = d :: L) (hle : d.f1 ≤ t) : Calls Tryd.prog 39 #[ptr B, .int .u64 t] W fun e w' => e = .returned (.tuple #[.agg #[.int .i64 d.f0, .int .u64 d.f1], .bool true]) ∧ Aside0 (WGo N F W w' B d.f1 L L) := by
  have hbx := below_alloc (Below.refl W.heap.size W) (.cells #[.int .i64 0, .int .u64 0] 31)
  have hx := blk_new W (.cells #[.int .i64 0, .int .u64 0] 31)
  have TL := Aside0.mk (tail_of tt hp)
  have hfi := Aside0.mk (first_W (h.step hbx) (hT.step hbx) tt hlen (some d) (by rw [hp]; rfl))
  have HT := Aside0.mk hT
  have HTT := Aside0.mk tt
  have H := Aside0.mk h
  have HX := Aside0.mk hx
  have HB := Aside0.mk hbx
  have HN := Aside0.mk hlen
  clear hT tt h hx hbx hlen hp
  go_enter Tryd.func39, Tryd.ntmps39
  go_upto_region 2 with (go_at_call 38; refine hfi.out.mono ?_; rintro e w1 ⟨rfl, hb1⟩)
  have hbw := Aside0.mk (below_step HB.out hb1)
  have hx1 := Aside0.mk (blk_alloc (blk_below HX.out hb1) (.cells #[.int .i64 d.f0, .int .u64 d.f1] 31))
  have hg6 := Aside0.mk (blk_new w1 (.cells #[.int .i64 d.f0, .int .u64 d.f1] 31))
  have hg46 : Aside0 (W.heap.size < w1.heap.size) := ⟨blk_lt (blk_below HX.out hb1)⟩
  clear hb1
  have hbc := Aside0.mk (below_alloc hbw.out (.cells #[.int .i64 d.f0, .int .u64 d.f1] 31))
  have z0 := (blk_cell hg6.out 0).trans rfl
  have z1 := (blk_cell hg6.out 1).trans rfl
  obtain ⟨g6, hge⟩ : ∃ g, w1.heap.size = g := ⟨_, rfl⟩
  rw [hge] at hg6 hg46 z0 z1 ⊢
  clear hge hbw
  generalize w1.alloc (.cells #[.int .i64 d.f0, .int .u64 d.f1] 31) = wc at hx1 hg6 hbc z0 z1 ⊢
  have Hc := Aside0.mk (H.out.step hbc.out)
  have hcn := Aside0.mk (cancel_yes Hc.out (HT.out.step hbc.out) HTT.out d.f0 d.f1 TL.out.tof HN.out)
  go_upto_region 4 with (go_at_call 31; refine hcn.out.mono ?_; rintro e w2 ⟨rfl, hg⟩)
  have hn4 : Aside0 (¬ F W.heap.size ∧ ¬ F g6) := ⟨fun e => Nat.lt_irrefl _ (H.out.lt _ e).2, fun e => by have := (H.out.lt _ e).2; have := hg46.out; omega⟩
  have hx2 := Aside0.mk ((hg.out.foot (blk_lt hx1.out) hn4.out.1).trans hx1.out)
  have hg2 := Aside0.mk ((hg.out.foot (blk_lt hg6.out) hn4.out.2).trans hg6.out)
  clear z0 z1 hcn
  have z0 := (blk_cell hg2.out 0).trans rfl
  have z1 := (blk_cell hg2.out 1).trans rfl
  have hT2 := Aside0.mk ((HT.out.step hbc.out).go Hc.out hg.out)
  have hL : Aside0 (WGo N F wc w2 B now L L) := ⟨hg.out.perm TL.out.rm TL.out.rm ((HTT.out.filter _).nd) ((HTT.out.filter _).nd)⟩
  have hLl : L.length ≤ 90000 := by
    have h5 := TL.out.rm.length_eq
    have h6 := List.length_filter_le (fun y : S31 => !(y.f0 == d.f0)) V
    have h7 := HN.out
    unfold Rg.rm at h5
    omega
  obtain ⟨F2, k1, k2, k3⟩ := hL.out
  have k2 := Aside0.mk k2
  have k3 := Aside0.mk k3
  have htn := Aside0.mk (turn_W k1 hT2.out ⟨TL.out.tt.nd, TL.out.tt.wf, TL.out.tt.u, fun e he => Int.le_trans TL.out.le (TL.out.tt.ge e he), HTT.out.un⟩ TL.out.tt.un TL.out.le TL.out.tt.ge hLl)
  have k1 := Aside0.mk k1
  have hn2 : Aside0 (¬ F2 W.heap.size ∧ ¬ F2 g6) := ⟨fun e => by
    rcases k2.out _ e with e | e
    · exact hn4.out.1 e
    · exact Nat.lt_irrefl _ (Nat.lt_of_lt_of_le (blk_lt hx1.out) e), fun e => by
    rcases k2.out _ e with e | e
    · exact hn4.out.2 e
    · exact Nat.lt_irrefl _ (Nat.lt_of_lt_of_le (blk_lt hg6.out) e)⟩
  clear hg hLl
  go_upto_region 5 with (go_at_call 74; refine htn.out.mono ?_; rintro e w3 ⟨rfl, hg⟩)
  have hx3 := Aside0.mk ((hg.out.foot (blk_lt hx2.out) hn2.out.1).trans hx2.out)
  have hg3 := Aside0.mk ((hg.out.foot (blk_lt hg2.out) hn2.out.2).trans hg2.out)
  clear z0 z1
  have z0 := (blk_cell hg3.out 0).trans rfl
  have z1 := (blk_cell hg3.out 1).trans rfl
  have v0 := (blk_cell hx3.out 0).trans rfl
  have v1 := (blk_cell hx3.out 1).trans rfl
  have f0 := blk_frozen hx3.out 0
  have f1 := blk_frozen hx3.out 1
  have hFs := Aside0.mk ((Fr.set w3 W.heap.size 0 (.int .i64 d.f0)).trans (Fr.set (w3.setCell ⟨W.heap.size, 0, none⟩ (.int .i64 d.f0)) W.heap.size 1 (.int .u64 d.f1)))
  go_wp2
  refine due_ret39 (x := d) rfl rfl (due_set hx3.out d) ⟨rfl, ⟨?_⟩⟩
  obtain ⟨F3, j1, j2, j3⟩ := hg.out
  refine ⟨F3, j1.keep hFs.out (fun b hb e => ?_), fun b hb => ?_, ?_⟩
  · have e2 : b = W.heap.size := e
    subst e2
    rcases j2 _ hb with e | e
    · exact hn2.out.1 e
    · exact Nat.lt_irrefl _ (Nat.lt_of_lt_of_le (blk_lt hx2.out) e)
  · rcases j2 b hb with e | e
    · rcases k2.out b e with e | e
      · exact .inl e
      · exact .inr (Nat.le_trans hbc.out.size e)
    · exact .inr (Nat.le_trans hbc.out.size (Nat.le_trans k3.out.size e))
  · exact Fr.then_ ((Fr.of_below hbc.out).trans (k3.out.then_ j3 k2.out)) hFs.out (fun b hb => .inr (Nat.le_of_eq (show W.heap.size = b from Eq.symm hb)))
set_option maxHeartbeats 8000000 in
set_option maxRecDepth 100000 in
theorem pop_no (h : WI N F W B now V V) (hT : TB N W) (tt : TT now V) (hlen : V.length ≤ 90000) (ht : U t) (hno : ∀ d ∈ V, t < d.f1) : Calls Tryd.prog 39 #[ptr B, .int .u64 t] W fun e w' => e = .returned (.tuple #[.agg #[.int .i64 0, .int .u64 0], .bool false]) ∧ Aside0 (WGo N F W w' B (if now < t then t else now) V V) := by
  have hbx := below_alloc (Below.refl W.heap.size W) (.cells #[.int .i64 0, .int .u64 0] 31)
  have hx := blk_new W (.cells #[.int .i64 0, .int .u64 0] 31)
  obtain ⟨r, hr⟩ : ∃ r, (psort V).head? = r := ⟨_, rfl⟩
  have hfi := Aside0.mk (first_W (h.step hbx) (hT.step hbx) tt hlen r hr)
  have hrr : ∀ d, r = some d → t < d.f1 := fun d hd => by
    rw [hd] at hr
    exact hno d ((psort_perm V).mem_iff.1 (List.mem_of_mem_head? hr))
  have HT := Aside0.mk hT
  have HTT := Aside0.mk tt
  have H := Aside0.mk h
  have HX := Aside0.mk hx
  have HB := Aside0.mk hbx
  have HN := Aside0.mk hlen
  have HU := Aside0.mk ht
  have HNO := Aside0.mk hno
  obtain ⟨x, hxe⟩ : ∃ x, r.getD ⟨0, 0⟩ = x := ⟨_, rfl⟩
  obtain ⟨b, hbe⟩ : ∃ b, r.isSome = b := ⟨_, rfl⟩
  have hxb : b = true → ¬ x.f1 ≤ t := fun e => by
    cases r with
    | none => rw [← hbe] at e; cases e
    | some d => have := hrr d rfl; rw [← hxe]; show ¬ d.f1 ≤ t; omega
  rw [hxe, hbe] at hfi
  clear hT tt h hx hbx hlen hr hrr hno hxe hbe ht
  go_enter Tryd.func39, Tryd.ntmps39
  go_upto_region 2 with (go_at_call 38; refine hfi.out.mono ?_; rintro e w1 ⟨rfl, hb1⟩)
  have hbw := Aside0.mk (below_step HB.out hb1)
  have hx1 := Aside0.mk (blk_alloc (blk_below HX.out hb1) (.cells #[.int .i64 x.f0, .int .u64 x.f1] 31))
  have hg6 := Aside0.mk (blk_new w1 (.cells #[.int .i64 x.f0, .int .u64 x.f1] 31))
  clear hb1
  have hbc := Aside0.mk (below_alloc hbw.out (.cells #[.int .i64 x.f0, .int .u64 x.f1] 31))
  have z1 : (w1.alloc (.cells #[.int .i64 x.f0, .int .u64 x.f1] 31)).cell? ⟨w1.heap.size, 1, none⟩ = some (.int .u64 x.f1) := (blk_cell hg6.out 1).trans rfl
  clear hbw
  generalize hge : w1.heap.size = g6 at hg6 z1 ⊢
  clear hge
  generalize w1.alloc (.cells #[.int .i64 x.f0, .int .u64 x.f1] 31) = wc at hx1 hg6 hbc z1 ⊢
  have Hc := Aside0.mk (H.out.step hbc.out)
  have hn4 : Aside0 (¬ F W.heap.size) := ⟨fun e => Nat.lt_irrefl _ (H.out.lt _ e).2⟩
  have hc0 : Aside0 (wc.cell? ⟨B, 0, none⟩ = some (.int .u64 now)) := ⟨by
    obtain ⟨fm, am, rs, Fs, h⟩ := Hc.out
    exact (blk_cell h.blk 0).trans rfl⟩
  have c0 := hc0.out
  by_cases hlt : now < t
  · have HLT := Aside0.mk hlt
    have htn := Aside0.mk (turn_W Hc.out (HT.out.step hbc.out) HTT.out HU.out (Int.le_of_lt hlt) (fun d hd => Int.le_of_lt (HNO.out d hd)) HN.out)
    cases b with
    | false =>
      clear hxb
      go_upto_region 8 with (go_at_call 74; refine htn.out.mono ?_; rintro e w3 ⟨rfl, hg⟩)
      have hx3 := Aside0.mk ((hg.out.foot (blk_lt hx1.out) hn4.out).trans hx1.out)
      have v0 : w3.cell? ⟨W.heap.size, 0, none⟩ = some (.int .i64 0) := (blk_cell hx3.out 0).trans rfl
      have v1 : w3.cell? ⟨W.heap.size, 1, none⟩ = some (.int .u64 0) := (blk_cell hx3.out 1).trans rfl
      have f0 := blk_frozen hx3.out 0
      have f1 := blk_frozen hx3.out 1
      go_wp2
      refine due_ret39 (x := ⟨0, 0⟩) rfl rfl (due_set hx3.out ⟨0, 0⟩) ⟨rfl, ⟨by first | exact WGo.due hbc.out H.out hg.out (blk_lt hx1.out) _ _ | (rw [if_pos HLT.out]; exact WGo.due hbc.out H.out hg.out (blk_lt hx1.out) _ _)⟩⟩
    | true =>
      have hxb2 := hxb rfl
      clear hxb
      go_upto_region 8 with (go_at_call 74; refine htn.out.mono ?_; rintro e w3 ⟨rfl, hg⟩)
      have hx3 := Aside0.mk ((hg.out.foot (blk_lt hx1.out) hn4.out).trans hx1.out)
      have v0 : w3.cell? ⟨W.heap.size, 0, none⟩ = some (.int .i64 0) := (blk_cell hx3.out 0).trans rfl
      have v1 : w3.cell? ⟨W.heap.size, 1, none⟩ = some (.int .u64 0) := (blk_cell hx3.out 1).trans rfl
      have f0 := blk_frozen hx3.out 0
      have f1 := blk_frozen hx3.out 1
      go_wp2
      refine due_ret39 (x := ⟨0, 0⟩) rfl rfl (due_set hx3.out ⟨0, 0⟩) ⟨rfl, ⟨by first | exact WGo.due hbc.out H.out hg.out (blk_lt hx1.out) _ _ | (rw [if_pos HLT.out]; exact WGo.due hbc.out H.out hg.out (blk_lt hx1.out) _ _)⟩⟩
  · have HLT := Aside0.mk hlt
    cases b with
    | false =>
      clear hxb
      go_upto_region 8 with (fail)
      have v0 : wc.cell? ⟨W.heap.size, 0, none⟩ = some (.int .i64 0) := (blk_cell hx1.out 0).trans rfl
      have v1 : wc.cell? ⟨W.heap.size, 1, none⟩ = some (.int .u64 0) := (blk_cell hx1.out 1).trans rfl
      have f0 := blk_frozen hx1.out 0
      have f1 := blk_frozen hx1.out 1
      go_wp2
      refine due_ret39 (x := ⟨0, 0⟩) rfl rfl (due_set hx1.out ⟨0, 0⟩) ⟨rfl, ⟨by first | exact WGo.due hbc.out H.out (Hc.out.go (Below.refl _ _)) (blk_lt hx1.out) _ _ | (rw [if_neg HLT.out]; exact WGo.due hbc.out H.out (Hc.out.go (Below.refl _ _)) (blk_lt hx1.out) _ _)⟩⟩
    | true =>
      have hxb2 := hxb rfl
      clear hxb
      go_upto_region 8 with (fail)
      have v0 : wc.cell? ⟨W.heap.size, 0, none⟩ = some (.int .i64 0) := (blk_cell hx1.out 0).trans rfl
      have v1 : wc.cell? ⟨W.heap.size, 1, none⟩ = some (.int .u64 0) := (blk_cell hx1.out 1).trans rfl
      have f0 := blk_frozen hx1.out 0
      have f1 := blk_frozen hx1.out 1
      go_wp2
      refine due_ret39 (x := ⟨0, 0⟩) rfl rfl (due_set hx1.out ⟨0, 0⟩) ⟨rfl, ⟨by first | exact WGo.due hbc.out H.out (Hc.out.go (Below.refl _ _)) (blk_lt hx1.out) _ _ | (rw [if_neg HLT.out]; exact WGo.due hbc.out H.out (Hc.out.go (Below.refl _ _)) (blk_lt hx1.out) _ _)⟩⟩
end
end Go.Proofs.YtedolmjealgeoaaDoor.Wh

set_option linter.unusedVariables false
namespace Go.Proofs.YtedolmjealgeoaaDoor.Wh
open Go.RowKit Go.Maps Go.Proofs.YtedolmjealgeoaaDoor.PBase Go.Proofs.YtedolmjealgeoaaDoor.Cat Go.Proofs.YtedolmjealgeoaaDoor.Rg Go.Proofs.YtedolmjealgeoaaDoor.Tk Go.Proofs.YtedolmjealgeoaaDoorW.PrintWords Go.Proofs.YtedolmjealgeoaaDoorW.PrintLast Go.Proofs.YtedolmjealgeoaaDoorW.PrintMore
theorem app2_run {W : World} {base : Nat} {ok : Nat → Prop} {v : Value} {xs : List S31} (h : Kd.R k31 31 W base ok v xs) (d : S31) (ty : TypeId) (hl : xs.length ≤ 1000000) (ad : Addr) (c : Nat) (hx : Kd.C k31 W (some ad) 1 [d]) (hb : base ≤ W.heap.size) :
    ∃ v1 w1, (Builtin.append_ #[42, 42] ty #[v, .slice (some ad) 1 c]).run Tryd.prog W = .ok v1 w1 ∧ Kd.R k31 31 w1 base (fun _ => True) v1 (xs ++ [d]) ∧ Fr (fun k => v.ownBlock = some k) W w1 ∧ At W v v1 := by
  obtain ⟨i0, hi, hzz⟩ := Option.map_eq_some_iff.1 info31
  simp only [Prod.mk.injEq] at hzz
  obtain ⟨hz0, hz1, hz2⟩ := hzz
  obtain ⟨v1, w1, hrun, h2, hg, _, hat⟩ := run_append_own_at (P := Tryd.prog) W base 42 ty 31 i0 _ 2 16 Tryd.underlying42 hi hz0 hz1 hz2 rfl (by decide) v xs.length (flat xs) (own_of_R h) ad 1 c (flat [d]) (by rw [flat_len]; rfl) (C_cells hx) flat_one (by simp only [maxLen]; omega) (by omega) hb
  rw [← flat_append] at h2
  refine ⟨v1, w1, hrun, R_of_own (by rw [List.length_append]; exact h2), Fr.of_grown hg (fun k e => e), ?_⟩
  rcases hat with hat | hat
  · exact .inl hat
  · exact .inr ⟨_, hat, Nat.le_refl _⟩
/-- What a Pop tells and leaves, of timers in order. -/
structure PopTo (L : List S31) (t : Int) (x : S31) (more : Bool) (cur : Int) (L' : List S31) : Prop where
  way : (more = true ∧ L = x :: L' ∧ x.f1 ≤ t ∧ cur = x.f1) ∨ (more = false ∧ x = ⟨0, 0⟩ ∧ L' = L ∧ cur = t ∧ ∀ e ∈ L, t < e.f1)
  tt : TT cur L'
  so : psort L' = L'
  le : cur ≤ t
section
variable {N : Nat} {F : Nat → Prop} {W W' : World} {B : Nat} {now t : Int} {T V L : List S31}
theorem pop_S (h : WI N F W B now L L) (hT : TB N W) (tt : TT now L) (so : psort L = L) (hlen : L.length ≤ 90000) (ht : U t) (hnt : now ≤ t) : Calls Tryd.prog 39 #[ptr B, .int .u64 t] W fun e w' => ∃ x more cur L', e = .returned (.tuple #[.agg #[.int .i64 x.f0, .int .u64 x.f1], .bool more]) ∧ Aside0 (PopTo L t x more cur L') ∧ Aside0 (WGo N F W w' B cur L' L') := by
  have hno : (∀ d ∈ L, t < d.f1) → Calls Tryd.prog 39 #[ptr B, .int .u64 t] W fun e w' => ∃ x more cur L', e = .returned (.tuple #[.agg #[.int .i64 x.f0, .int .u64 x.f1], .bool more]) ∧ Aside0 (PopTo L t x more cur L') ∧ Aside0 (WGo N F W w' B cur L' L') := fun hno => by
    refine (pop_no h hT tt hlen ht hno).mono ?_
    rintro e w' ⟨rfl, hg⟩
    have e1 : (if now < t then t else now) = t := by split <;> omega
    rw [e1] at hg
    exact ⟨⟨0, 0⟩, false, t, L, rfl, ⟨⟨.inr ⟨rfl, rfl, rfl, rfl, hno⟩, tt.tm ht (fun d hd => Int.le_of_lt (hno d hd)), so, Int.le_refl _⟩⟩, hg⟩
  cases hL : L with
  | nil =>
    subst hL
    exact hno (fun d hd => absurd hd List.not_mem_nil)
  | cons d M =>
    rw [hL] at so
    rw [← hL]
    by_cases hle : d.f1 ≤ t
    · have hp : psort L = d :: M := by rw [hL]; exact so
      have TL := tail_of tt hp
      refine (pop_yes h hT tt hlen hp hle).mono ?_
      rintro e w' ⟨rfl, hg⟩
      exact ⟨d, true, d.f1, M, rfl, ⟨⟨.inl ⟨rfl, hL, hle, rfl⟩, TL.tt, TL.so, hle⟩⟩, hg⟩
    · refine hno (fun e he => ?_)
      have s : So (d :: M) := so ▸ psort_so (d :: M)
      rw [hL] at he
      rcases List.mem_cons.1 he with rfl | he
      · omega
      · have := (List.pairwise_cons.1 s).1 e he
        rw [nb_iff] at this
        omega
theorem adv_nil (W : World) (n : Int) : Calls Tryd.prog 32 #[.pointer none, .int .u64 n] W fun e w' => e = .returned (.tuple #[.slice none 0 0, .int .i64 1]) ∧ Below W.heap.size W w' := by
  go_enter Tryd.func32, Tryd.ntmps32
  go_wp2
  go_ret2
  exact ⟨rfl, Below.refl _ _⟩
theorem adv_over (h : WI N F W B now T V) (hT : TB N W) (hn : U now) {n : Int} (hu : U n) (ho : ¬ now + n < 18446744073709551616) : Calls Tryd.prog 32 #[ptr B, .int .u64 n] W fun e w' => e = .returned (.tuple #[.slice none 0 0, .int .i64 14]) ∧ Below W.heap.size W w' := by
  have hs := sum hn hu
  rw [if_neg ho] at hs
  have HS := Aside0.mk hs
  have HT := Aside0.mk hT
  obtain ⟨fm, am, rs, Fs, h⟩ := h
  have c0 : W.cell? ⟨B, 0, none⟩ = some (.int .u64 now) := (blk_cell h.blk 0).trans rfl
  clear h hn hu ho hs hT
  go_enter Tryd.func32, Tryd.ntmps32
  go_wp2_with (go_at_call 72; refine (Gv.tick_Sum.calls now n 0 false _ HS.out HT.out.tab).mono ?_; rintro e w1 ⟨rfl, hb1⟩)
  go_ret2
  exact ⟨rfl, hb1⟩
/-- Those that are due by t, and the others. -/
def dueT (V : List S31) (t : Int) : List S31 := (psort V).filter (fun d => decide (d.f1 ≤ t))
def restT (V : List S31) (t : Int) : List S31 := (psort V).filter (fun d => !decide (d.f1 ≤ t))
theorem due_split {A R : List S31} (h : A ++ R = psort V) (ha : ∀ e ∈ A, e.f1 ≤ t) (hr : ∀ e ∈ R, t < e.f1) : dueT V t = A ∧ restT V t = R := by
  unfold dueT restT
  rw [← h, List.filter_append, List.filter_append]
  have h1 : A.filter (fun d => decide (d.f1 ≤ t)) = A := List.filter_eq_self.2 (fun e he => by simpa using ha e he)
  have h2 : R.filter (fun d => decide (d.f1 ≤ t)) = [] := List.filter_eq_nil_iff.2 (fun e he => by have := hr e he; simp; omega)
  have h3 : A.filter (fun d => !decide (d.f1 ≤ t)) = [] := List.filter_eq_nil_iff.2 (fun e he => by have := ha e he; simp; omega)
  have h4 : R.filter (fun d => !decide (d.f1 ≤ t)) = R := List.filter_eq_self.2 (fun e he => by have := hr e he; simp; omega)
  rw [h1, h2, h3, h4]
  simp
set_option maxHeartbeats 8000000 in
set_option maxRecDepth 100000 in
theorem adv_W (h : WI N F W B now V V) (hT : TB N W) (tt : TT now V) (hlen : V.length ≤ 90000) {n : Int} (hu : U n) (ho : now + n = t) (ht : U t) : Calls Tryd.prog 32 #[ptr B, .int .u64 n] W fun e w' => ∃ v, e = .returned (.tuple #[v, .int .i64 0]) ∧ Aside0 (∃ F', Kd.R k31 31 w' W.heap.size (fun k => ¬ F' k) v (dueT V t) ∧ WI N F' w' B t (restT V t) (restT V t) ∧ (∀ k, F' k → F k ∨ W.heap.size ≤ k) ∧ Fr F W w') := by
  have hs := sum tt.un hu
  rw [ho, if_pos ht.2] at hs
  have HS := Aside0.mk hs
  have HT := Aside0.mk hT
  have hpp := (psort_perm V).symm
  have hS := Aside0.mk (h.perm hpp hpp tt.nd tt.nd)
  have HTT := Aside0.mk (tt.perm hpp)
  have h0 := Aside0.mk h
  have hso : Aside0 (psort (psort V) = psort V) := ⟨psort_of (psort_so V) (List.Perm.refl _)⟩
  have hsl : Aside0 ((psort V).length ≤ 90000) := ⟨by rw [psort_len]; exact hlen⟩
  have hnt : now ≤ t := by have := hu.1; omega
  have c0 : W.cell? ⟨B, 0, none⟩ = some (.int .u64 now) := by
    obtain ⟨fm, am, rs, Fs, h⟩ := h
    exact (blk_cell h.blk 0).trans rfl
  have HU := Aside0.mk ht
  have HNT := Aside0.mk hnt
  obtain ⟨S, hSe⟩ : ∃ S, psort V = S := ⟨_, rfl⟩
  have HSE := Aside0.mk hSe
  rw [hSe] at hS HTT hso hsl
  clear h hT tt hlen hs hpp hu ho ht hnt hSe
  go_enter Tryd.func32, Tryd.ntmps32
  go_wp2_with (first
    | (go_at_call 72; refine (Gv.tick_Sum.calls now n t true _ HS.out HT.out.tab).mono ?_; rintro e w1 ⟨rfl, hb1⟩)
    | (go_at_call 39; refine (pop_S (hS.out.step hb1) (HT.out.step hb1) HTT.out hso.out hsl.out HU.out HNT.out).mono ?_; rintro e w2 ⟨x, more, cur, L', rfl, hp, hg⟩; have hgb := Aside0.mk (blk_new w2 (.cells #[.int .i64 x.f0, .int .u64 x.f1] 31)); have hbx := Aside0.mk (below_alloc (Below.refl w2.heap.size w2) (.cells #[.int .i64 x.f0, .int .u64 x.f1] 31))))
  have hg2 := Aside0.mk (hg.out.below hbx.out)
  have hgW : Aside0 (W.heap.size ≤ w2.heap.size) := ⟨by
    obtain ⟨_, _, _, k3⟩ := hg.out
    exact Nat.le_trans hb1.size k3.size⟩
  have hgn : Aside0 (∃ F', WI N F' (w2.alloc (.cells #[.int .i64 x.f0, .int .u64 x.f1] 31)) B cur L' L' ∧ (∀ k, F' k → (F k ∨ W.heap.size ≤ k) ∧ k ≠ w2.heap.size) ∧ Fr F W (w2.alloc (.cells #[.int .i64 x.f0, .int .u64 x.f1] 31))) := ⟨by
    obtain ⟨F', k1, k2, k3⟩ := hg.out
    refine ⟨F', k1.step hbx.out, fun k hk => ⟨?_, fun e => ?_⟩, (Fr.of_below hb1).trans (k3.trans (Fr.of_below hbx.out))⟩
    · rcases k2 k hk with e | e
      · exact .inl e
      · exact .inr (Nat.le_trans hb1.size e)
    · have := (k1.lt k hk).2
      omega⟩
  clear hg hg2 hb1 hbx c0
  generalize hge : w2.heap.size = g2 at hgb hgW hgn ⊢
  clear hge
  generalize w2.alloc (.cells #[.int .i64 x.f0, .int .u64 x.f1] 31) = wb at hgb hgn ⊢
  go_loopg [8, 9, 10] S.length (fun gk v8 v9 v10 wr => ∃ (A P : List S31) (x : S31) (more : Bool) (cur : Int) (Rr : List S31) (gd : Nat) (vo : Value), vo = v8 ∧ v9 = .pointer (some ⟨gd, 0, none⟩) ∧ v10 = .bool more ∧ P.length ≤ gk ∧ Aside0 (A ++ P = S) ∧ Aside0 (∀ e ∈ A, e.f1 ≤ t) ∧ Aside0 (PopTo P t x more cur Rr) ∧ Aside0 (wr.heap[gd]? = some (.cells #[.int .i64 x.f0, .int .u64 x.f1] 31 (0, 0))) ∧ Aside0 (W.heap.size ≤ gd) ∧ Aside0 (∃ F', WI N F' wr B cur Rr Rr ∧ Kd.R k31 31 wr W.heap.size (fun k => ¬ F' k ∧ k ≠ gd) vo A ∧ (∀ k, F' k → (F k ∨ W.heap.size ≤ k) ∧ k ≠ gd) ∧ Fr F W wr))
  case atStart => exact ⟨[], S, x, more, cur, L', g2, _, rfl, rfl, rfl, Nat.le_refl _, ⟨rfl⟩, ⟨fun e he => absurd he List.not_mem_nil⟩, hp, hgb, hgW, ⟨by obtain ⟨F', k1, k2, k3⟩ := hgn.out; exact ⟨F', k1, Kd.R_nil _ _ _ _ _, k2, k3⟩⟩⟩
  case round =>
    clear hgb hgW hgn hp
    obtain ⟨A, P, x, more, cur, Rr, gd, vo, rfl, rfl, rfl, hgk, hAP, hAt, hp, hgb, hgd, hI⟩ := hrel
    cases more with
    | false =>
      go_wp2
      go_ret2
      obtain ⟨F', k1, kR, k2, k3⟩ := hI.out
      rcases hp.out.way with ⟨e, _⟩ | ⟨_, _, e2, e3, hno⟩
      · cases e
      · subst e2 e3
        obtain ⟨d1, d2⟩ := due_split (V := V) (t := cur) (hAP.out.trans HSE.out.symm) hAt.out hno
        refine ⟨_, rfl, ⟨F', ?_, ?_, fun k hk => (k2 k hk).1, k3⟩⟩
        · rw [d1]
          exact Kd.R_mono kR (fun k hk => hk.1)
        · rw [d2]
          exact k1
    | true =>
      obtain ⟨F1, k1, kR, k2, k3⟩ := hI.out
      have hRb := Aside0.mk kR.1
      have k2 := Aside0.mk k2
      have k3 := Aside0.mk k3
      have hway : P = x :: Rr ∧ x.f1 ≤ t := by
        rcases hp.out.way with ⟨_, e1, e2, _⟩ | ⟨e, _⟩
        · exact ⟨e1, e2⟩
        · cases e
      have hxt := Aside0.mk hway.2
      obtain rfl := hway.1
      have hbx := Aside0.mk (below_alloc (Below.refl wr.heap.size wr) (.cells #[.int .i64 x.f0, .int .u64 x.f1] 31))
      have hll := hAP.out
      replace hll := congrArg List.length hll
      rw [List.length_append, List.length_cons] at hll
      have hsl2 := hsl.out
      obtain ⟨v1, w3, hrun, hR1, hF1, hat⟩ := app2_run (Kd.R_below kR hbx.out) x 42 (by omega) ⟨wr.heap.size, 0, none⟩ 1 (C_one (w := wr) x) (Nat.le_trans k3.out.size hbx.out.size)
      have hrl : Rr.length ≤ 90000 := by omega
      have hgk2 : Rr.length < gk := by rw [List.length_cons] at hgk; omega
      have hR1 := Aside0.mk hR1
      have hF1 := Aside0.mk hF1
      have hga := blk_alloc hgb.out (.cells #[.int .i64 x.f0, .int .u64 x.f1] 31)
      have hgb3 := (hF1.out.blk gd (blk_lt hga) (fun e => (hRb.out _ e).2 rfl)).trans hga
      have y0 : wr.cell? ⟨gd, 0, none⟩ = some (.int .i64 x.f0) := (blk_cell hgb.out 0).trans rfl
      have y1 : wr.cell? ⟨gd, 1, none⟩ = some (.int .u64 x.f1) := (blk_cell hgb.out 1).trans rfl
      have z0 : w3.cell? ⟨gd, 0, none⟩ = some (.int .i64 x.f0) := (blk_cell hgb3 0).trans rfl
      have z1 : w3.cell? ⟨gd, 1, none⟩ = some (.int .u64 x.f1) := (blk_cell hgb3 1).trans rfl
      have hb4 := Aside0.mk (below_alloc (Below.refl w3.heap.size w3) (.cells #[.int .i64 x.f0, .int .u64 x.f1] 31))
      have hg4 := Aside0.mk (blk_new w3 (.cells #[.int .i64 x.f0, .int .u64 x.f1] 31))
      have hW3 := Aside0.mk ((k1.step hbx.out).keep hF1.out (fun k hk e => (hRb.out k e).1 hk))
      have hW4 := Aside0.mk (hW3.out.step hb4.out)
      have hf04 : Aside0 (Fr F W (w3.alloc (.cells #[.int .i64 x.f0, .int .u64 x.f1] 31))) := ⟨(k3.out.then_ ((Fr.of_below (F := fun k => vo.ownBlock = some k) hbx.out).trans hF1.out) (fun k hk => .inr (Kd.R_bound kR |>.1 k hk).2.1)).trans (Fr.of_below hb4.out)⟩
      have hT4 : TB N (w3.alloc (.cells #[.int .i64 x.f0, .int .u64 x.f1] 31)) := HT.out.fr hf04.out (fun k hk => (h0.out.lt k hk).1)
      have hpop := Aside0.mk (pop_S hW4.out hT4 hp.out.tt hp.out.so hrl HU.out hp.out.le)
      have hlt1 : Aside0 (∀ k, F1 k → k < w3.heap.size) := ⟨fun k hk => (hW3.out.lt k hk).2⟩
      have hob : Aside0 (∀ k, v1.ownBlock = some k → ¬ F1 k ∧ k < w3.heap.size) := ⟨fun k hk => ⟨fun e => by
        rcases hat with h5 | ⟨b, h5, h6⟩
        · rw [h5] at hk
          exact (hRb.out k hk).1 e
        · rw [hk] at h5
          have h7 := Option.some.inj h5
          have h8 := (k1.lt k e).2
          have h9 := hbx.out.size
          omega, own_lt (own_of_R hR1.out) k hk⟩⟩
      have hg3W : Aside0 (W.heap.size ≤ w3.heap.size) := ⟨by
        have h5 := k3.out.size
        have h6 := hbx.out.size
        have h7 := hF1.out.size
        omega⟩
      have hAP2 : Aside0 ((A ++ [x]) ++ Rr = S) := ⟨by rw [List.append_assoc]; exact hAP.out⟩
      have hAt2 : Aside0 (∀ e ∈ A ++ [x], e.f1 ≤ t) := ⟨fun e he => by
        rcases List.mem_append.1 he with he | he
        · exact hAt.out e he
        · rw [List.mem_singleton.1 he]
          exact hxt.out⟩
      clear k1 kR hI hway hll hsl2 hrl hat hga hgb3 hT4 hAP hAt
      go_wp2_with (first
        | (at_builtin; refine Lib.wpList_append_run _ (by rfl) (.tmp 37) (.tmp 39) 42 42 (by rfl) _ (.slice (some ⟨wr.heap.size, 0, none⟩) 1 1) (by rfl) (by rfl) v1 w3 hrun ?_)
        | (go_at_call 39; refine hpop.out.mono ?_; rintro e w5 ⟨x2, more2, cur2, L2, rfl, hp2, hg⟩; have hg5 := Aside0.mk ((hg.out.foot (blk_lt hg4.out) (fun e => Nat.lt_irrefl _ (hlt1.out _ e))).trans hg4.out); have q0 := (blk_cell hg5.out 0).trans rfl; have q1 := (blk_cell hg5.out 1).trans rfl; have q2 := blk_frozen hg5.out 0; have q3 := blk_frozen hg5.out 1))
      go_roundg Rr.length
      case measure => omega
      case rel =>
        refine ⟨A ++ [x], Rr, x2, more2, cur2, L2, w3.heap.size, _, rfl, rfl, rfl, Nat.le_refl _, hAP2, hAt2, hp2, ⟨due_set hg5.out x2⟩, hg3W, ⟨?_⟩⟩
        obtain ⟨F2, j1, j2, j3⟩ := hg.out
        have hgs : w3.heap.size < (w3.alloc (.cells #[.int .i64 x.f0, .int .u64 x.f1] 31)).heap.size := blk_lt hg4.out
        have hfs := (Fr.set w5 w3.heap.size 0 (.int .i64 x2.f0)).trans (Fr.set (w5.setCell ⟨w3.heap.size, 0, none⟩ (.int .i64 x2.f0)) w3.heap.size 1 (.int .u64 x2.f1))
        have hn2 : ∀ k, F2 k → (F k ∨ W.heap.size ≤ k) ∧ k ≠ w3.heap.size := fun k hk => by
          rcases j2 k hk with e | e
          · exact ⟨(k2.out k e).1, fun e2 => by have := hlt1.out k e; omega⟩
          · exact ⟨.inr (by have := hg3W.out; omega), fun e2 => by omega⟩
        have hft := ((Fr.of_below (F := F1) hb4.out).trans j3).then_ hfs (fun k hk => .inr (Nat.le_of_eq (show w3.heap.size = k from Eq.symm hk)))
        refine ⟨F2, j1.keep hfs (fun k hk e => (hn2 k hk).2 e), ?_, hn2, ?_⟩
        · refine Kd.R_mono (Kd.R_kept (Kd.R_tight2 rfl hR1.out) (S := fun k => F1 k ∨ k = w3.heap.size) ⟨hft.size, fun i hi hn => ?_⟩ (fun k hk e => ?_)) (fun k hk => ?_)
          · exact hft.blk i hi (fun e => hn (.inl e))
          · rcases e with e | e
            · exact (hob.out k hk.1.symm).1 e
            · have := (hob.out k hk.1.symm).2
              omega
          · refine ⟨fun e => ?_, fun e => by have := (hob.out k hk.1.symm).2; omega⟩
            rcases j2 k e with e | e
            · exact (hob.out k hk.1.symm).1 e
            · have := (hob.out k hk.1.symm).2
              omega
        · refine Fr.then_ (Fr.then_ hf04.out j3 (fun k hk => (k2.out k hk).1)) hfs (fun k hk => .inr ?_)
          have e2 : k = w3.heap.size := hk
          rw [e2]
          exact hg3W.out
end
end Go.Proofs.YtedolmjealgeoaaDoor.Wh

set_option linter.unusedVariables false
namespace Go.Proofs.YtedolmjealgeoaaDoor.Wh
open Go.RowKit Go.Maps Go.Proofs.YtedolmjealgeoaaDoor.PBase Go.Proofs.YtedolmjealgeoaaDoor.Cat Go.Proofs.YtedolmjealgeoaaDoor.Rg Go.Proofs.YtedolmjealgeoaaDoor.Tk Go.Proofs.YtedolmjealgeoaaDoorW.PrintWords Go.Proofs.YtedolmjealgeoaaDoorW.PrintLast Go.Proofs.YtedolmjealgeoaaDoorW.PrintMore
theorem RI.lower {N M : Nat} {F : Nat → Prop} {W : World} {R : Nat} {T : List S114} (h : RI N F W R T) (hM : M ≤ N) : RI M F W R T := by
  obtain ⟨h1, ⟨m, fu, vs, a1, a2, a3, a4, a5, a6⟩, p3, p4⟩ := h
  exact ⟨h1, ⟨m, fu, vs, a1, a2, a3, a4, fun j hj => Kd.R_lower (a5 j hj) hM, a6⟩, p3, fun k hk => ⟨Nat.le_trans hM (p4 k hk).1, (p4 k hk).2⟩⟩
/-- The first j rings are there. -/
def ups (rs : Nat → Nat) (j : Nat) : Nat → Value := fun i => if i < j then ptr (rs i) else .pointer none
structure NewSt (W wr : World) (now : Int) (j : Nat) (rs : Nat → Nat) (Fs : Nat → Nat → Prop) : Prop where
  blk : wr.heap[W.heap.size + 2]? = some (.cells (wcells now (ups rs j) W.heap.size (W.heap.size + 1)) 125 (0, 0))
  far : MI .u64 29 wr W.heap.size (fun _ => none) 0
  at_ : MI .u64 29 wr (W.heap.size + 1) (fun _ => none) 0
  ring : ∀ i, i < j → RI W.heap.size (Fs i) wr (rs i) []
  sub : ∀ i k, i < j → Fs i k → W.heap.size + 3 ≤ k
  dis : ∀ i l k, i < j → l < j → Fs i k → Fs l k → i = l
  bel : Below W.heap.size W wr
  sz : W.heap.size + 3 ≤ wr.heap.size
theorem NewSt.start (W : World) (now : Int) : NewSt W (((W.alloc (.map #[] 0)).alloc (.map #[] 0)).alloc (.cells #[.int .u64 now, .pointer none, .pointer none, .pointer none, .pointer none, .pointer none, .pointer none, .map (some W.heap.size), .map (some (W.heap.size + 1))] 125)) now 0 (fun _ => 0) (fun _ _ => False) := by
  have h1 : (W.alloc (.map #[] 0)).heap.size = W.heap.size + 1 := by simp
  have h2 : ((W.alloc (.map #[] 0)).alloc (.map #[] 0)).heap.size = W.heap.size + 2 := by simp
  have h3 : (((W.alloc (.map #[] 0)).alloc (.map #[] 0)).alloc (.cells #[.int .u64 now, .pointer none, .pointer none, .pointer none, .pointer none, .pointer none, .pointer none, .map (some W.heap.size), .map (some (W.heap.size + 1))] 125)).heap.size = W.heap.size + 3 := by simp
  have b1 := below_alloc (Below.refl (W.alloc (.map #[] 0)).heap.size (W.alloc (.map #[] 0))) (.map #[] 0)
  have b2 := below_alloc (Below.refl ((W.alloc (.map #[] 0)).alloc (.map #[] 0)).heap.size ((W.alloc (.map #[] 0)).alloc (.map #[] 0))) (.cells #[.int .u64 now, .pointer none, .pointer none, .pointer none, .pointer none, .pointer none, .pointer none, .map (some W.heap.size), .map (some (W.heap.size + 1))] 125)
  refine ⟨?_, ?_, ?_, fun i hi => absurd hi (Nat.not_lt_zero i), fun i k hi => absurd hi (Nat.not_lt_zero i), fun i l k hi => absurd hi (Nat.not_lt_zero i), below_alloc (below_alloc (below_alloc (Below.refl _ _) _) _) _, Nat.le_of_eq h3.symm⟩
  · rw [← h2]
    exact blk_new _ _
  · exact ((MI.made .u64 29 W).fr (F := fun _ => False) (Fr.of_below b1) (fun h => h)).fr (F := fun _ => False) (Fr.of_below b2) (fun h => h)
  · have h := (MI.made .u64 29 (W.alloc (.map #[] 0))).fr (F := fun _ => False) (Fr.of_below b2) (fun h => h)
    rw [h1] at h
    exact h
theorem NewSt.step {W wr w1 : World} {now : Int} {j : Nat} {rs : Nat → Nat} {Fs : Nat → Nat → Prop} (h : NewSt W wr now j rs Fs) (hj : j < 6) {R : Nat} {F : Nat → Prop} (hr : RI wr.heap.size F w1 R []) (hb : Below wr.heap.size wr w1) : NewSt W (w1.setCell ⟨W.heap.size + 2, j + 1, none⟩ (ptr R)) now (j + 1) (fput rs j R) (fput Fs j F) := by
  have hf := Fr.set w1 (W.heap.size + 2) (j + 1) (ptr R)
  have hsz := h.sz
  have hold : ∀ {k}, k < j → ∀ b, Fs k b → b < wr.heap.size := fun hk b hb => ((h.ring _ hk).lt b hb).2
  have e0 : ∀ {i}, i < j + 1 → i ≠ j → i < j := fun h1 h2 => by omega
  have hmf := h.far.fr (F := fun _ => False) (Fr.of_below hb) (fun h => h)
  have hma := h.at_.fr (F := fun _ => False) (Fr.of_below hb) (fun h => h)
  have hblk := blk_set (blk_below h.blk hb) (j + 1) (ptr R)
  rw [wc_setRing _ _ _ _ hj] at hblk
  have e1 : vput (ups rs j) j (ptr R) = ups (fput rs j R) (j + 1) := by
    funext i
    unfold vput ups
    by_cases e : i = j
    · subst e
      rw [if_pos rfl, if_pos (by omega), fput_same]
    · rw [if_neg e]
      by_cases e2 : i < j
      · rw [if_pos e2, if_pos (by omega), fput_other e]
      · rw [if_neg e2, if_neg (by omega)]
  rw [e1] at hblk
  refine ⟨hblk, hmf.fr hf (by omega), hma.fr hf (by omega), fun i hi => ?_, fun i k hi hk => ?_, fun i l k hi hl hk hk2 => ?_, below_set (below_step h.bel hb) (by omega), by have := hb.size; have := hf.size; omega⟩
  · by_cases e : i = j
    · subst e
      rw [fput_same, fput_same]
      exact Wh.RI.lower (hr.keep hf (fun k hk e2 => by have := (hr.lt k hk).1; omega)) (by omega)
    · rw [fput_other e, fput_other e]
      exact ((h.ring i (e0 hi e)).step hb).keep hf (fun k hk e2 => by have := h.sub i k (e0 hi e) hk; omega)
  · by_cases e : i = j
    · subst e
      rw [fput_same] at hk
      have := (hr.lt k hk).1
      omega
    · rw [fput_other e] at hk
      exact h.sub i k (e0 hi e) hk
  · by_cases e : i = j
    · by_cases e2 : l = j
      · rw [e, e2]
      · rw [fput_other e2] at hk2
        rw [e, fput_same] at hk
        have := hold (e0 hl e2) k hk2
        have := (hr.lt k hk).1
        omega
    · by_cases e2 : l = j
      · rw [fput_other e] at hk
        rw [e2, fput_same] at hk2
        have := hold (e0 hi e) k hk
        have := (hr.lt k hk2).1
        omega
      · rw [fput_other e] at hk
        rw [fput_other e2] at hk2
        exact h.dis i l k (e0 hi e) (e0 hl e2) hk hk2
theorem NewSt.done {W wr : World} {now : Int} {rs : Nat → Nat} {Fs : Nat → Nat → Prop} (h : NewSt W wr now 6 rs Fs) : WI W.heap.size (fun k => W.heap.size ≤ k ∧ k < wr.heap.size) wr (W.heap.size + 2) now [] [] := by
  have hsz := h.sz
  refine ⟨W.heap.size, W.heap.size + 1, rs, Fs, ⟨h.blk, h.far, h.at_, h.ring, fun i k hi hk => ?_, h.dis, ⟨by omega, by omega⟩, ⟨by omega, by omega⟩, ⟨by omega, by omega⟩, by omega, by omega, by omega, fun k hk => hk⟩⟩
  have h1 := h.sub i k hi hk
  have h2 := ((h.ring i hi).lt k hk).2
  exact ⟨⟨by omega, h2⟩, by omega, by omega, by omega⟩
theorem ups_cell {W wr w1 : World} {now : Int} {j : Nat} {rs : Nat → Nat} {Fs : Nat → Nat → Prop} (h : NewSt W wr now j rs Fs) (hb : Below wr.heap.size wr w1) (hj : j < 6) : w1.cell? ⟨W.heap.size + 2, 1 + j, none⟩ = some (.pointer none) := by
  refine (blk_cell (blk_below h.blk hb) (1 + j)).trans ?_
  rw [Nat.add_comm 1 j, wc_ring _ _ _ _ hj]
  unfold ups
  rw [if_neg (by omega)]
set_option maxHeartbeats 8000000 in
set_option maxRecDepth 100000 in
theorem new_W (W : World) (now : Int) : Calls Tryd.prog 35 #[.int .u64 now] W fun e w' => ∃ B F, e = .returned (ptr B) ∧ Aside0 (WI W.heap.size F w' B now [] []) ∧ Below W.heap.size W w' := by
  have hmm := @run_makeMap Tryd.prog
  have HS := Aside0.mk (NewSt.start W now)
  have hsz : (W.alloc (.map #[] 0)).heap.size = W.heap.size + 1 := by simp
  have hsz2 : ((W.alloc (.map #[] 0)).alloc (.map #[] 0)).heap.size = W.heap.size + 2 := by simp
  go_enter Tryd.func35, Tryd.ntmps35
  go_wp2
  generalize ((W.alloc (.map #[] 0)).alloc (.map #[] 0)).alloc (.cells #[.int .u64 now, .pointer none, .pointer none, .pointer none, .pointer none, .pointer none, .pointer none, .map (some W.heap.size), .map (some (W.heap.size + 1))] 125) = w0 at HS ⊢
  clear hmm hsz hsz2
  go_loopg [10] 7 (fun gk v10 wr => ∃ j : Nat, v10 = .int .i64 j ∧ j ≤ 6 ∧ 6 - j ≤ gk ∧ Aside0 (∃ rs Fs, NewSt W wr now j rs Fs))
  case atStart => exact ⟨0, rfl, by omega, by omega, ⟨_, _, HS.out⟩⟩
  case round =>
    obtain ⟨j, rfl, hj, hgk, hI⟩ := hrel
    obtain ⟨rs, Fs, hN⟩ := hI.out
    have hN := Aside0.mk hN
    clear hI
    by_cases hlt : j < 6
    · have hlt2 : (j : Int) < 6 := by omega
      have hj0 : (0 : Int) ≤ (j : Int) := by omega
      go_upto_region 5 with (fail)
      go_region_held3 (fun _ => True) (trivial) (first | (go_at_call 13; refine (new_calls _).mono ?_; rintro e w1 ⟨R, F', rfl, hR, hb0⟩; have hb1 : Below wr.heap.size wr w1 := below_step (below_drew1 (Below.refl _ _)) hb0; have hS2 := Aside0.mk (NewSt.step hN.out hlt (RI.lower hR (Nat.le_refl _)) hb1); replace hR := Aside0.mk hR; have q1 := blk_frozen (blk_below hN.out.blk hb1) (1 + j); have q0 := ups_cell hN.out hb1 hlt))
      rw [Nat.add_comm 1 j]
      go_wp2
      go_roundg (6 - (j + 1))
      case measure => omega
      case rel => exact ⟨j + 1, by go_num, by omega, Nat.le_refl _, ⟨_, _, hS2.out⟩⟩
    · obtain rfl : j = 6 := by omega
      go_wp2
      go_ret
      exact ⟨_, _, rfl, ⟨hN.out.done⟩, hN.out.bel⟩
end Go.Proofs.YtedolmjealgeoaaDoor.Wh

set_option linter.unusedVariables false
namespace Go.Proofs.YtedolmjealgeoaaDoor.Wh
open Go.RowKit Go.Maps Go.Proofs.YtedolmjealgeoaaDoor.PBase Go.Proofs.YtedolmjealgeoaaDoor.Cat Go.Proofs.YtedolmjealgeoaaDoor.Rg Go.Proofs.YtedolmjealgeoaaDoor.Tk Go.Proofs.YtedolmjealgeoaaDoorW.PrintWords Go.Proofs.YtedolmjealgeoaaDoorW.PrintLast Go.Proofs.YtedolmjealgeoaaDoorW.PrintMore
/-- A whole number as a float's bits. -/
def fl (n : Int) : Nat := floatOfInt .f64 n
/-- Where a time lies: slot and level; -1 and 6 beyond the rings. -/
def placeV (now a : Int) : Value := if lv a now < 6 then .complex .f64 (fl (dg a (lv a now))) (fl (lv a now)) else .complex .f64 13830554455654793216 4618441417868443648
def placeO (now : Int) (r : Option Int) : Value := match r with | none => .complex .f64 0 0 | some a => placeV now a
/-- How many lie at each level; the first j are written. -/
def lcells (f : Nat → Int) (j : Nat) : Array Value := #[.int .i64 (if 0 < j then f 0 else 0), .int .i64 (if 1 < j then f 1 else 0), .int .i64 (if 2 < j then f 2 else 0), .int .i64 (if 3 < j then f 3 else 0), .int .i64 (if 4 < j then f 4 else 0), .int .i64 (if 5 < j then f 5 else 0), .int .i64 (if 6 < j then f 6 else 0)]
theorem lc_set (f : Nat → Int) {j : Nat} (hj : j < 7) : (lcells f j).setIfInBounds j (.int .i64 (f j)) = lcells f (j + 1) := by
  have h : j = 0 ∨ j = 1 ∨ j = 2 ∨ j = 3 ∨ j = 4 ∨ j = 5 ∨ j = 6 := by omega
  rcases h with rfl | rfl | rfl | rfl | rfl | rfl | rfl <;> simp [lcells]
theorem lc_at (f : Nat → Int) {j : Nat} (hj : j < 7) : ∃ x, (lcells f j)[j]? = some (.int .i64 x) := by
  have h : j = 0 ∨ j = 1 ∨ j = 2 ∨ j = 3 ∨ j = 4 ∨ j = 5 ∨ j = 6 := by omega
  rcases h with rfl | rfl | rfl | rfl | rfl | rfl | rfl <;> exact ⟨_, rfl⟩
/-- What Load tells. -/
def loadF (now : Int) (V : List S31) (i : Nat) : Int := if i < 6 then ((rgT now V i).length : Int) else ((farT now V).length : Int)
section
variable {N : Nat} {F : Nat → Prop} {W W' : World} {B : Nat} {now t : Int} {T V L : List S31}
theorem load_ret {Q : Ending → World → Prop} {tmps : Array Value} {W : World} {f : Nat → Int} {j g : Nat} (hg : tmps.getD 2 undef = .pointer (some ⟨g, 0, none⟩)) (hb : W.heap[g]? = some (.cells (lcells f j) 74 (0, 0))) (hQ : Q (.returned (.agg (lcells f j))) W) : bodyPost Tryd.prog Tryd.f40 Q Exit.ret { tmps := tmps, defers := [] } W :=
  bodyPost_ret (v := .agg (lcells f j)) (results_cell_row (fn := Tryd.f40) rfl tmps W g 74 _ (0, 0) _ hg hb Tryd.underlying74 rfl (by kernel_rfl)) rfl hQ
theorem load_set {W : World} {g : Nat} {c0 c1 c2 c3 c4 c5 c6 : Value} (h : W.heap[g]? = some (.cells #[c0, c1, c2, c3, c4, c5, c6] 74 (0, 0))) (d0 d1 d2 d3 d4 d5 d6 : Value) : (((((((W.setCell ⟨g, 0, none⟩ d0).setCell ⟨g, 1, none⟩ d1).setCell ⟨g, 2, none⟩ d2).setCell ⟨g, 3, none⟩ d3).setCell ⟨g, 4, none⟩ d4).setCell ⟨g, 5, none⟩ d5).setCell ⟨g, 6, none⟩ d6).heap[g]? = some (.cells #[d0, d1, d2, d3, d4, d5, d6] 74 (0, 0)) :=
  blk_put (cs := #[d0, d1, d2, d3, d4, d5, c6]) (blk_put (cs := #[d0, d1, d2, d3, d4, c5, c6]) (blk_put (cs := #[d0, d1, d2, d3, c4, c5, c6]) (blk_put (cs := #[d0, d1, d2, c3, c4, c5, c6]) (blk_put (cs := #[d0, d1, c2, c3, c4, c5, c6]) (blk_put (cs := #[d0, c1, c2, c3, c4, c5, c6]) (blk_put (cs := #[c0, c1, c2, c3, c4, c5, c6]) h 0 d0 (rfl : (#[c0, c1, c2, c3, c4, c5, c6] : Array Value).setIfInBounds 0 d0 = #[d0, c1, c2, c3, c4, c5, c6])) 1 d1 (rfl : (#[d0, c1, c2, c3, c4, c5, c6] : Array Value).setIfInBounds 1 d1 = #[d0, d1, c2, c3, c4, c5, c6])) 2 d2 (rfl : (#[d0, d1, c2, c3, c4, c5, c6] : Array Value).setIfInBounds 2 d2 = #[d0, d1, d2, c3, c4, c5, c6])) 3 d3 (rfl : (#[d0, d1, d2, c3, c4, c5, c6] : Array Value).setIfInBounds 3 d3 = #[d0, d1, d2, d3, c4, c5, c6])) 4 d4 (rfl : (#[d0, d1, d2, d3, c4, c5, c6] : Array Value).setIfInBounds 4 d4 = #[d0, d1, d2, d3, d4, c5, c6])) 5 d5 (rfl : (#[d0, d1, d2, d3, d4, c5, c6] : Array Value).setIfInBounds 5 d5 = #[d0, d1, d2, d3, d4, d5, c6])) 6 d6 (rfl : (#[d0, d1, d2, d3, d4, d5, c6] : Array Value).setIfInBounds 6 d6 = #[d0, d1, d2, d3, d4, d5, d6])
set_option maxHeartbeats 4000000 in
set_option maxRecDepth 100000 in
theorem load_nil (W : World) : Calls Tryd.prog 40 #[.pointer none] W fun e w' => e = .returned (.agg (lcells (fun _ => 0) 0)) ∧ Below W.heap.size W w' := by
  have hb1 := below_alloc (Below.refl W.heap.size W) (.cells #[.int .i64 0, .int .i64 0, .int .i64 0, .int .i64 0, .int .i64 0, .int .i64 0, .int .i64 0] 74)
  have hg1 := blk_new W (.cells #[.int .i64 0, .int .i64 0, .int .i64 0, .int .i64 0, .int .i64 0, .int .i64 0, .int .i64 0] 74)
  have hsz : (W.alloc (.cells #[.int .i64 0, .int .i64 0, .int .i64 0, .int .i64 0, .int .i64 0, .int .i64 0, .int .i64 0] 74)).heap.size = W.heap.size + 1 := by simp
  have hg2 := blk_new (W.alloc (.cells #[.int .i64 0, .int .i64 0, .int .i64 0, .int .i64 0, .int .i64 0, .int .i64 0, .int .i64 0] 74)) (.cells #[.int .i64 0, .int .i64 0, .int .i64 0, .int .i64 0, .int .i64 0, .int .i64 0, .int .i64 0] 74)
  rw [hsz] at hg2
  have hg12 := blk_alloc hg1 (.cells #[.int .i64 0, .int .i64 0, .int .i64 0, .int .i64 0, .int .i64 0, .int .i64 0, .int .i64 0] 74)
  have hb2 := below_alloc hb1 (.cells #[.int .i64 0, .int .i64 0, .int .i64 0, .int .i64 0, .int .i64 0, .int .i64 0, .int .i64 0] 74)
  have y0 := (blk_cell hg2 0).trans rfl
  have v0 := (blk_cell hg12 0).trans rfl
  have z0 := blk_frozen hg12 0
  have y1 := (blk_cell hg2 1).trans rfl
  have v1 := (blk_cell hg12 1).trans rfl
  have z1 := blk_frozen hg12 1
  have y2 := (blk_cell hg2 2).trans rfl
  have v2 := (blk_cell hg12 2).trans rfl
  have z2 := blk_frozen hg12 2
  have y3 := (blk_cell hg2 3).trans rfl
  have v3 := (blk_cell hg12 3).trans rfl
  have z3 := blk_frozen hg12 3
  have y4 := (blk_cell hg2 4).trans rfl
  have v4 := (blk_cell hg12 4).trans rfl
  have z4 := blk_frozen hg12 4
  have y5 := (blk_cell hg2 5).trans rfl
  have v5 := (blk_cell hg12 5).trans rfl
  have z5 := blk_frozen hg12 5
  have y6 := (blk_cell hg2 6).trans rfl
  have v6 := (blk_cell hg12 6).trans rfl
  have z6 := blk_frozen hg12 6
  have HG := Aside0.mk hg12
  have HB := Aside0.mk hb2
  clear hg1 hg2 hg12 hb1 hb2
  go_enter Tryd.func40, Tryd.ntmps40
  go_wp2
  exact load_ret (f := fun _ => 0) (j := 0) rfl HG.out ⟨rfl, HB.out⟩
set_option maxHeartbeats 8000000 in
set_option maxRecDepth 100000 in
theorem load_W (h : WI N F W B now T V) : Calls Tryd.prog 40 #[ptr B] W fun e w' => e = .returned (.agg (lcells (loadF now T) 7)) ∧ Below W.heap.size W w' := by
  obtain ⟨fm, am, rs, Fs, h⟩ := h
  have hX := Aside0.mk h
  have hb1 := below_alloc (Below.refl W.heap.size W) (.cells #[.int .i64 0, .int .i64 0, .int .i64 0, .int .i64 0, .int .i64 0, .int .i64 0, .int .i64 0] 74)
  have hg1 := blk_new W (.cells #[.int .i64 0, .int .i64 0, .int .i64 0, .int .i64 0, .int .i64 0, .int .i64 0, .int .i64 0] 74)
  obtain ⟨W1, hW1⟩ : ∃ W1, W.alloc (.cells #[.int .i64 0, .int .i64 0, .int .i64 0, .int .i64 0, .int .i64 0, .int .i64 0, .int .i64 0] 74) = W1 := ⟨_, rfl⟩
  rw [hW1] at hb1 hg1
  have hb2 := below_alloc hb1 (.cells #[.int .i64 0, .int .i64 0, .int .i64 0, .int .i64 0, .int .i64 0, .int .i64 0, .int .i64 0] 74)
  have hg2 := blk_new W1 (.cells #[.int .i64 0, .int .i64 0, .int .i64 0, .int .i64 0, .int .i64 0, .int .i64 0, .int .i64 0] 74)
  have hg12 := blk_alloc hg1 (.cells #[.int .i64 0, .int .i64 0, .int .i64 0, .int .i64 0, .int .i64 0, .int .i64 0, .int .i64 0] 74)
  have hne : W.heap.size < W1.heap.size := blk_lt hg1
  have hX2 := h.step hb2
  obtain ⟨W2, hW2⟩ : ∃ W2, W1.alloc (.cells #[.int .i64 0, .int .i64 0, .int .i64 0, .int .i64 0, .int .i64 0, .int .i64 0, .int .i64 0] 74) = W2 := ⟨_, rfl⟩
  rw [hW2] at hb2 hg2 hg12 hX2
  have c1 : W2.cell? ⟨B, 1, none⟩ = some (ptr (rs 0)) := (blk_cell hX2.blk 1).trans rfl
  have c2 : W2.cell? ⟨B, 2, none⟩ = some (ptr (rs 1)) := (blk_cell hX2.blk 2).trans rfl
  have c3 : W2.cell? ⟨B, 3, none⟩ = some (ptr (rs 2)) := (blk_cell hX2.blk 3).trans rfl
  have c4 : W2.cell? ⟨B, 4, none⟩ = some (ptr (rs 3)) := (blk_cell hX2.blk 4).trans rfl
  have c5 : W2.cell? ⟨B, 5, none⟩ = some (ptr (rs 4)) := (blk_cell hX2.blk 5).trans rfl
  have c6 : W2.cell? ⟨B, 6, none⟩ = some (ptr (rs 5)) := (blk_cell hX2.blk 6).trans rfl
  have HB2 := Aside0.mk hb2
  have HG2 := Aside0.mk hg2
  have HG12 := Aside0.mk hg12
  have HNE := Aside0.mk hne
  clear h hb1 hg1 hb2 hg2 hg12 hne hX2
  subst hW1
  subst hW2
  go_enter Tryd.func40, Tryd.ntmps40
  go_wp2
  have hsz : (W.alloc (.cells #[.int .i64 0, .int .i64 0, .int .i64 0, .int .i64 0, .int .i64 0, .int .i64 0, .int .i64 0] 74)).heap.size = W.heap.size + 1 := by simp
  rw [hsz] at HG2 HNE
  clear c1 c2 c3 c4 c5 c6
  generalize (W.alloc (.cells #[.int .i64 0, .int .i64 0, .int .i64 0, .int .i64 0, .int .i64 0, .int .i64 0, .int .i64 0] 74)).alloc (.cells #[.int .i64 0, .int .i64 0, .int .i64 0, .int .i64 0, .int .i64 0, .int .i64 0, .int .i64 0] 74) = W2 at HB2 HG2 HG12 ⊢
  clear hsz
  generalize hge : W.heap.size + 1 = g at HG2 HNE ⊢
  clear hge
  obtain ⟨f, hf⟩ : ∃ f, loadF now T = f := ⟨_, rfl⟩
  have HFE := Aside0.mk hf
  clear hf
  go_loopg [13] 7 (fun gk v13 wr => ∃ j : Nat, v13 = .int .i64 j ∧ j ≤ 6 ∧ 6 - j ≤ gk ∧ Aside0 (wr.heap[g]? = some (.cells (lcells f j) 74 (0, 0))) ∧ Aside0 (wr.heap[W.heap.size]? = some (.cells #[.int .i64 0, .int .i64 0, .int .i64 0, .int .i64 0, .int .i64 0, .int .i64 0, .int .i64 0] 74 (0, 0))) ∧ Aside0 (Below W.heap.size W wr))
  case atStart => exact ⟨0, rfl, by omega, by omega, HG2, HG12, HB2⟩
  case round =>
    obtain ⟨j, rfl, hj, hgk, hG, hR, hB⟩ := hrel
    by_cases hlt : j < 6
    · have hj0 : (0 : Int) ≤ (j : Int) := by omega
      have hj1 : (j : Int) < 6 := by omega
      have hj2 : (j : Int) < 7 := by omega
      have hix := run_index122 rs hlt
      obtain ⟨xx, hxx⟩ := lc_at f (j := j) (by omega)
      have hll := Rg.len_calls ((hX.out.ring j hlt).step hB.out)
      have hfj : ((rgT now T j).length : Int) = f j := by
        rw [← HFE.out]
        unfold loadF
        rw [if_pos hlt]
      rw [hfj] at hll
      replace hll := Aside0.mk hll
      clear hfj
      go_wp2_with (go_at_call 25; refine hll.out.mono ?_; rintro e w1 ⟨rfl, hb1⟩; have hg1 := Aside0.mk (blk_below hG.out hb1); have hr1 := Aside0.mk (blk_below hR.out hb1); have q1 := blk_frozen hg1.out j; have q0 := (blk_cell hg1.out j).trans hxx)
      go_roundg (6 - (j + 1))
      case measure => omega
      case rel =>
        refine ⟨j + 1, by go_num, by omega, Nat.le_refl _, ⟨?_⟩, ⟨?_⟩, ⟨below_set (below_step hB.out hb1) (Nat.le_of_lt HNE.out)⟩⟩
        · have h5 := blk_set hg1.out j (.int .i64 (f j))
          rw [lc_set f (by omega)] at h5
          exact h5
        · exact ((Fr.set w1 g j (.int .i64 (f j))).blk W.heap.size (blk_lt hr1.out) (fun e => by have := HNE.out; have e2 : W.heap.size = g := e; omega)).trans hr1.out
    · obtain rfl : j = 6 := by omega
      have hXr := hX.out.step hB.out
      have c7 : wr.cell? ⟨B, 7, none⟩ = some (.map (some fm)) := (blk_cell hXr.blk 7).trans rfl
      have hf6 : ((farT now T).length : Int) = f 6 := by
        rw [← HFE.out]
        rfl
      have hlen := fun ty => hXr.far.len ek29 ty
      rw [hf6] at hlen
      have q0 := (blk_cell hG.out 6).trans rfl
      have q1 := blk_frozen hG.out 6
      have hgS := Aside0.mk (blk_set hG.out 6 (.int .i64 (f 6)))
      rw [lc_set f (by omega)] at hgS
      have hrS := Aside0.mk (((Fr.set wr g 6 (.int .i64 (f 6))).blk W.heap.size (blk_lt hR.out) (fun e => by have := HNE.out; have e2 : W.heap.size = g := e; omega)).trans hR.out)
      have hbS := Aside0.mk (below_set (v := .int .i64 (f 6)) (j := 6) hB.out (Nat.le_of_lt HNE.out))
      clear hXr hf6
      go_upto_region 10 with (fail)
      generalize wr.setCell ⟨g, 6, none⟩ (.int .i64 (f 6)) = wS at hgS hrS hbS ⊢
      clear c7 hlen q0 q1
      have y0 : wS.cell? ⟨g, 0, none⟩ = some (.int .i64 (f 0)) := (blk_cell hgS.out 0).trans rfl
      have v0 : wS.cell? ⟨W.heap.size, 0, none⟩ = some (.int .i64 0) := (blk_cell hrS.out 0).trans rfl
      have z0 := blk_frozen hrS.out 0
      have y1 : wS.cell? ⟨g, 1, none⟩ = some (.int .i64 (f 1)) := (blk_cell hgS.out 1).trans rfl
      have v1 : wS.cell? ⟨W.heap.size, 1, none⟩ = some (.int .i64 0) := (blk_cell hrS.out 1).trans rfl
      have z1 := blk_frozen hrS.out 1
      have y2 : wS.cell? ⟨g, 2, none⟩ = some (.int .i64 (f 2)) := (blk_cell hgS.out 2).trans rfl
      have v2 : wS.cell? ⟨W.heap.size, 2, none⟩ = some (.int .i64 0) := (blk_cell hrS.out 2).trans rfl
      have z2 := blk_frozen hrS.out 2
      have y3 : wS.cell? ⟨g, 3, none⟩ = some (.int .i64 (f 3)) := (blk_cell hgS.out 3).trans rfl
      have v3 : wS.cell? ⟨W.heap.size, 3, none⟩ = some (.int .i64 0) := (blk_cell hrS.out 3).trans rfl
      have z3 := blk_frozen hrS.out 3
      have y4 : wS.cell? ⟨g, 4, none⟩ = some (.int .i64 (f 4)) := (blk_cell hgS.out 4).trans rfl
      have v4 : wS.cell? ⟨W.heap.size, 4, none⟩ = some (.int .i64 0) := (blk_cell hrS.out 4).trans rfl
      have z4 := blk_frozen hrS.out 4
      have y5 : wS.cell? ⟨g, 5, none⟩ = some (.int .i64 (f 5)) := (blk_cell hgS.out 5).trans rfl
      have v5 : wS.cell? ⟨W.heap.size, 5, none⟩ = some (.int .i64 0) := (blk_cell hrS.out 5).trans rfl
      have z5 := blk_frozen hrS.out 5
      have y6 : wS.cell? ⟨g, 6, none⟩ = some (.int .i64 (f 6)) := (blk_cell hgS.out 6).trans rfl
      have v6 : wS.cell? ⟨W.heap.size, 6, none⟩ = some (.int .i64 0) := (blk_cell hrS.out 6).trans rfl
      have z6 := blk_frozen hrS.out 6
      go_wp2
      refine load_ret rfl (load_set hrS.out _ _ _ _ _ _ _) ⟨by rw [HFE.out], ?_⟩
      exact below_set (below_set (below_set (below_set (below_set (below_set (below_set hbS.out (Nat.le_refl _)) (Nat.le_refl _)) (Nat.le_refl _)) (Nat.le_refl _)) (Nat.le_refl _)) (Nat.le_refl _)) (Nat.le_refl _)
theorem place_nil (W : World) (id : Int) : Calls Tryd.prog 46 #[.pointer none, .int .i64 id] W fun e w' => e = .returned (.tuple #[.complex .f64 0 0, .bool false]) ∧ Below W.heap.size W w' := by
  go_enter Tryd.func46, Tryd.ntmps46
  go_wp2_with (go_at_call 48; refine (at_nil _ id).mono ?_; rintro e w1 ⟨rfl, hb1⟩)
  go_ret2
  exact ⟨rfl, hb1⟩
set_option maxHeartbeats 4000000 in
set_option maxRecDepth 100000 in
theorem place_W (h : WI N F W B now T V) (hT : TB N W) (hn : U now) (hu : ∀ d ∈ V, U d.f1) (id : Int) (hw : (Lit.int .i64 id).wf = true) (r : Option Int) (hr : tof V id = r) : Calls Tryd.prog 46 #[ptr B, .int .i64 id] W fun e w' => e = .returned (.tuple #[placeO now r, .bool r.isSome]) ∧ Below W.heap.size W w' := by
  have ha := at_calls h id hw
  rw [hr] at ha
  have HA := Aside0.mk ha
  cases r with
  | none =>
    clear h hT hn hu ha hr
    go_enter Tryd.func46, Tryd.ntmps46
    go_wp2_with (go_at_call 48; refine HA.out.mono ?_; rintro e w1 ⟨rfl, hb1⟩)
    go_ret2
    exact ⟨rfl, hb1⟩
  | some a =>
    have hua : U a := hu _ (tof_get hr)
    have HT := Aside0.mk hT
    have HN := Aside0.mk (And.intro hua hn)
    have HC : Aside0 (W.cell? ⟨B, 0, none⟩ = some (.int .u64 now)) := ⟨by
      obtain ⟨fm, am, rs, Fs, h⟩ := h
      exact (blk_cell h.blk 0).trans rfl⟩
    have hd := dg_range a (lv a now)
    show Calls Tryd.prog 46 #[ptr B, .int .i64 id] W fun e w' => e = .returned (.tuple #[placeV now a, .bool true]) ∧ Below W.heap.size W w'
    unfold placeV
    obtain ⟨k, hk⟩ : ∃ k, lv a now = k := ⟨_, rfl⟩
    have HK := Aside0.mk hk
    rw [hk] at hd ⊢
    have hdl := hd.1
    have hdg := hd.2
    clear h hT hn hu ha hr hua hd hk
    by_cases hlt : k < 6
    · rw [if_pos hlt]
      have h1 : ¬ (6 : Int) ≤ (k : Int) := by omega
      have h2 : (k : Int) < 6 := by omega
      have u3 : (Tryd.prog.underlying 3).isSome = true := by rw [Tryd.underlying3]; rfl
      have u91 : Tryd.prog.underlying 91 = some (.float .f64) := Tryd.underlying91
      have cv := fun n w => run_convert_int_float (P := Tryd.prog) w 3 91 .i64 .f64 n u3 u91
      go_enter Tryd.func46, Tryd.ntmps46
      go_wp2_with (first
        | (go_at_call 48; refine HA.out.mono ?_; rintro e w1 ⟨rfl, hb1⟩)
        | (go_at_call 71; have hq := where_calls ((hb1.cell (World.block_lt_of_cell? W _ HC.out)).trans HC.out) (HT.out.step hb1).tab HN.out.1 HN.out.2; rw [HK.out] at hq; refine hq.mono ?_; clear hq; rintro e w2 ⟨rfl, hb2⟩))
      go_ret2
      exact ⟨rfl, below_step hb1 hb2⟩
    · rw [if_neg hlt]
      have h2 : (6 : Int) ≤ (k : Int) := by omega
      go_enter Tryd.func46, Tryd.ntmps46
      go_wp2_with (first
        | (go_at_call 48; refine HA.out.mono ?_; rintro e w1 ⟨rfl, hb1⟩)
        | (go_at_call 71; have hq := where_calls ((hb1.cell (World.block_lt_of_cell? W _ HC.out)).trans HC.out) (HT.out.step hb1).tab HN.out.1 HN.out.2; rw [HK.out] at hq; refine hq.mono ?_; clear hq; rintro e w2 ⟨rfl, hb2⟩))
      go_ret2
      exact ⟨rfl, below_step hb1 hb2⟩
end
end Go.Proofs.YtedolmjealgeoaaDoor.Wh

set_option linter.unusedVariables false
namespace Go.Proofs.YtedolmjealgeoaaDoor.Wh
open Go.RowKit Go.Maps Go.Proofs.YtedolmjealgeoaaDoor.PBase Go.Proofs.YtedolmjealgeoaaDoor.Cat Go.Proofs.YtedolmjealgeoaaDoor.Rg Go.Proofs.YtedolmjealgeoaaDoor.Tk Go.Proofs.YtedolmjealgeoaaDoorW.PrintWords Go.Proofs.YtedolmjealgeoaaDoorW.PrintLast Go.Proofs.YtedolmjealgeoaaDoorW.PrintMore
/-- A wheel whose blocks are none of X. -/
structure WJ (N : Nat) (X : Nat → Prop) (W : World) (B : Nat) (now : Int) (T : List S31) : Prop where
  ex : ∃ F, WI N F W B now T T ∧ ∀ k, X k → ¬ F k
  xs : ∀ k, X k → k < W.heap.size
  tt : TT now T
  tb : TB N W
section
variable {N : Nat} {X Y : Nat → Prop} {W W' : World} {B : Nat} {now t : Int} {T V L : List S31}
theorem WJ.of_go {F : Nat → Prop} {w' : World} {now' : Int} {T' : List S31} (h : WI N F W B now T V) (hX : ∀ k, X k → ¬ F k) (xs : ∀ k, X k → k < W.heap.size) (tb : TB N W) (hg : WGo N F W w' B now' T' T') (tt : TT now' T') : WJ N X w' B now' T' ∧ Fr (KX N X) W w' := by
  obtain ⟨F', k1, k2, k3⟩ := hg
  refine ⟨⟨⟨F', k1, fun k hk e => ?_⟩, fun k hk => Nat.lt_of_lt_of_le (xs k hk) k3.size, tt, tb.fr k3 (fun k hk => (h.lt k hk).1)⟩, k3.weak (fun k hk => ⟨(h.lt k hk).1, fun hx => hX k hx hk⟩)⟩
  rcases k2 k e with e | e
  · exact hX k hk e
  · have := xs k hk; omega
theorem WJ.step (h : WJ N X W B now T) (hb : Below W.heap.size W W') : WJ N X W' B now T := by
  obtain ⟨⟨F, h1, h2⟩, h3, h4, h5⟩ := h
  exact ⟨⟨F, h1.step hb, h2⟩, fun k hk => Nat.lt_of_lt_of_le (h3 k hk) hb.size, h4, h5.step hb⟩
theorem WJ.sub (h : WJ N X W B now T) (hs : ∀ k, Y k → X k) : WJ N Y W B now T := by
  obtain ⟨⟨F, h1, h2⟩, h3, h4, h5⟩ := h
  exact ⟨⟨F, h1, fun k hk => h2 k (hs k hk)⟩, fun k hk => h3 k (hs k hk), h4, h5⟩
theorem WJ.base_le (h : WJ N X W B now T) : N ≤ W.heap.size := by
  obtain ⟨⟨F, h1, h2⟩, h3, h4, h5⟩ := h
  have := h1.lt B h1.fB
  omega
theorem WJ.more (h : WJ N X W B now T) (hb : Below W.heap.size W W') (hY : ∀ k, Y k → W.heap.size ≤ k ∧ k < W'.heap.size) : WJ N (fun k => X k ∨ Y k) W' B now T := by
  obtain ⟨⟨F, h1, h2⟩, h3, h4, h5⟩ := h
  refine ⟨⟨F, h1.step hb, fun k hk e => ?_⟩, fun k hk => ?_, h4, h5.step hb⟩
  · rcases hk with hk | hk
    · exact h2 k hk e
    · have := (h1.lt k e).2
      have := (hY k hk).1
      omega
  · rcases hk with hk | hk
    · exact Nat.lt_of_lt_of_le (h3 k hk) hb.size
    · exact (hY k hk).2
/-- Blocks of X, and new ones, were written; X may then be another set of them. -/
theorem WJ.swap {X1 : Nat → Prop} (h : WJ N X W B now T) (hf : Fr X W W') (hp : ∀ k, X k → 0 < k) (hX : ∀ k, X1 k → (X k ∨ W.heap.size ≤ k) ∧ k < W'.heap.size) : WJ N X1 W' B now T := by
  obtain ⟨⟨F, h1, h2⟩, h3, h4, h5⟩ := h
  refine ⟨⟨F, h1.keep hf (fun k hk hx => h2 k hx hk), fun k hk e => ?_⟩, fun k hk => (hX k hk).2, h4, ⟨fun j hj => hf.cell (h5.tab j hj) (fun e => Nat.lt_irrefl 0 (hp 0 e)), h5.pos⟩⟩
  rcases (hX k hk).1 with hk | hk
  · exact h2 k hk e
  · have := (h1.lt k e).2
    omega
theorem WJ.perm (h : WJ N X W B now T) (hp : T.Perm V) : WJ N X W B now V := by
  obtain ⟨⟨F, h1, h2⟩, h3, h4, h5⟩ := h
  exact ⟨⟨F, h1.perm hp hp h4.nd h4.nd, h2⟩, h3, h4.perm hp, h5⟩
theorem R_fw {b : Nat} {w w' : World} {v : Value} {M : List S31} (hR : Kd.R k31 31 w b X v M) (hf : Fr (KX N X) w w') : Kd.R k31 31 w' b X v M := Rg.R_fr hR hf
theorem new_J (W : World) (hT : Tz.TabOk W) {now : Int} (hn : U now) : Calls Tryd.prog 35 #[.int .u64 now] W fun e w' => ∃ B, e = .returned (ptr B) ∧ Aside0 (WJ W.heap.size (fun _ => False) w' B now []) ∧ Below W.heap.size W w' := by
  have hpos : 0 < W.heap.size := by
    have := World.block_lt_of_cell? W _ (hT 0 (by decide))
    exact this
  refine (new_W W now).mono ?_
  rintro e w' ⟨B, F, rfl, h, hb⟩
  exact ⟨B, rfl, ⟨⟨F, h.out, fun _ h => h.elim⟩, fun _ h => h.elim, TT.nil hn, ⟨hT.below hb, hpos⟩⟩, hb⟩
theorem now_J (h : WJ N X W B now T) : Calls Tryd.prog 34 #[ptr B] W fun e w' => e = .returned (.int .u64 now) ∧ Below W.heap.size W w' := by
  obtain ⟨⟨F, h1, h2⟩, h3, h4, h5⟩ := h
  exact now_calls h1
theorem len_J (h : WJ N X W B now T) : Calls Tryd.prog 37 #[ptr B] W fun e w' => e = .returned (.int .i64 T.length) ∧ Below W.heap.size W w' := by
  obtain ⟨⟨F, h1, h2⟩, h3, h4, h5⟩ := h
  exact len_calls h1
theorem at_J (h : WJ N X W B now T) (id : Int) (hw : (Lit.int .i64 id).wf = true) (r : Option Int) (hr : tof T id = r) : Calls Tryd.prog 48 #[ptr B, .int .i64 id] W fun e w' => e = .returned (.tuple #[.int .u64 (r.getD 0), .bool r.isSome]) ∧ Below W.heap.size W w' := by
  obtain ⟨⟨F, h1, h2⟩, h3, h4, h5⟩ := h
  subst hr
  exact at_calls h1 id hw
theorem place_J (h : WJ N X W B now T) (id : Int) (hw : (Lit.int .i64 id).wf = true) (r : Option Int) (hr : tof T id = r) : Calls Tryd.prog 46 #[ptr B, .int .i64 id] W fun e w' => e = .returned (.tuple #[placeO now r, .bool r.isSome]) ∧ Below W.heap.size W w' := by
  obtain ⟨⟨F, h1, h2⟩, h3, h4, h5⟩ := h
  exact place_W h1 h5 h4.un h4.u id hw r hr
theorem load_J (h : WJ N X W B now T) : Calls Tryd.prog 40 #[ptr B] W fun e w' => e = .returned (.agg (lcells (loadF now T) 7)) ∧ Below W.heap.size W w' := by
  obtain ⟨⟨F, h1, h2⟩, h3, h4, h5⟩ := h
  exact load_W h1
theorem first_J (h : WJ N X W B now T) (hlen : T.length ≤ 90000) (r : Option S31) (hr : (psort T).head? = r) : Calls Tryd.prog 38 #[ptr B] W fun e w' => e = .returned (.tuple #[.agg #[.int .i64 (r.getD ⟨0, 0⟩).f0, .int .u64 (r.getD ⟨0, 0⟩).f1], .bool r.isSome]) ∧ Below W.heap.size W w' := by
  obtain ⟨⟨F, h1, h2⟩, h3, h4, h5⟩ := h
  exact first_W h1 h5 h4 hlen r hr
theorem ins_tt (h : TT now T) {id a : Int} (hw : (Lit.int .i64 id).wf = true) (hu : U a) : TT now (insT now T id a) := by
  unfold insT
  by_cases h1 : id ∈ ids T
  · rw [if_pos h1]; exact h
  · rw [if_neg h1]
    by_cases h2 : a ≤ now
    · rw [if_pos h2]; exact h
    · rw [if_neg h2]
      exact h.cons h1 hw hu (by show now ≤ a; omega)
theorem ins_J (h : WJ N X W B now T) (id a : Int) (hw : (Lit.int .i64 id).wf = true) (hu : U a) (hlen : T.length ≤ 90000) (r : Int) (hr : insR now T id a = r) (T' : List S31) (hT' : insT now T id a = T') : Calls Tryd.prog 36 #[ptr B, .int .i64 id, .int .u64 a] W fun e w' => e = .returned (.int .i64 r) ∧ Aside0 (WJ N X w' B now T') ∧ Fr (KX N X) W w' := by
  obtain ⟨⟨F, h1, h2⟩, h3, h4, h5⟩ := h
  subst hT'
  refine (insert_W h1 h5 h4.un id a hw hu hlen r hr).mono ?_
  rintro e w' ⟨rfl, hg⟩
  obtain ⟨k1, k2⟩ := WJ.of_go h1 h2 h3 h5 hg.out (ins_tt h4 hw hu)
  exact ⟨rfl, ⟨k1⟩, k2⟩
theorem can_J (h : WJ N X W B now T) (id : Int) (hw : (Lit.int .i64 id).wf = true) (hlen : T.length ≤ 90000) (r : Option Int) (hr : tof T id = r) : Calls Tryd.prog 31 #[ptr B, .int .i64 id] W fun e w' => e = .returned (.tuple #[.int .u64 (r.getD 0), .bool r.isSome]) ∧ Aside0 (WJ N X w' B now (rm T id)) ∧ Fr (KX N X) W w' := by
  obtain ⟨⟨F, h1, h2⟩, h3, h4, h5⟩ := h
  refine (cancel_W h1 h5 h4 id hw hlen r hr).mono ?_
  rintro e w' ⟨rfl, hg⟩
  obtain ⟨k1, k2⟩ := WJ.of_go h1 h2 h3 h5 hg.out (h4.filter _)
  exact ⟨rfl, ⟨k1⟩, k2⟩
/-- What a Pop tells and leaves. -/
inductive PopG (now : Int) (T : List S31) (t : Int) : S31 → Bool → Int → List S31 → Prop where
  | yes (x : S31) (L : List S31) (h1 : psort T = x :: L) (h2 : x.f1 ≤ t) : PopG now T t x true x.f1 L
  | no (h1 : ∀ e ∈ T, t < e.f1) : PopG now T t ⟨0, 0⟩ false (if now < t then t else now) T
theorem pop_J (h : WJ N X W B now T) (hu : U t) (hlen : T.length ≤ 90000) : Calls Tryd.prog 39 #[ptr B, .int .u64 t] W fun e w' => ∃ x more cur L', e = .returned (.tuple #[.agg #[.int .i64 x.f0, .int .u64 x.f1], .bool more]) ∧ Aside0 (PopG now T t x more cur L') ∧ Aside0 (WJ N X w' B cur L') ∧ Fr (KX N X) W w' := by
  obtain ⟨⟨F, h1, h2⟩, h3, h4, h5⟩ := h
  have hno : (∀ d ∈ T, t < d.f1) → Calls Tryd.prog 39 #[ptr B, .int .u64 t] W fun e w' => ∃ x more cur L', e = .returned (.tuple #[.agg #[.int .i64 x.f0, .int .u64 x.f1], .bool more]) ∧ Aside0 (PopG now T t x more cur L') ∧ Aside0 (WJ N X w' B cur L') ∧ Fr (KX N X) W w' := fun hno => by
    refine (pop_no h1 h5 h4 hlen hu hno).mono ?_
    rintro e w' ⟨rfl, hg⟩
    have htt : TT (if now < t then t else now) T := by
      split
      · exact h4.tm hu (fun d hd => Int.le_of_lt (hno d hd))
      · exact h4
    obtain ⟨k1, k2⟩ := WJ.of_go h1 h2 h3 h5 hg.out htt
    exact ⟨⟨0, 0⟩, false, _, T, rfl, ⟨.no hno⟩, ⟨k1⟩, k2⟩
  cases hL : psort T with
  | nil =>
    have : T = [] := by
      have := psort_perm T
      rw [hL] at this
      exact List.nil_perm.1 this
    subst this
    exact hno (fun d hd => absurd hd List.not_mem_nil)
  | cons d M =>
    by_cases hle : d.f1 ≤ t
    · have TL := tail_of h4 hL
      refine (pop_yes h1 h5 h4 hlen hL hle).mono ?_
      rintro e w' ⟨rfl, hg⟩
      obtain ⟨k1, k2⟩ := WJ.of_go h1 h2 h3 h5 hg.out TL.tt
      exact ⟨d, true, d.f1, M, rfl, ⟨.yes d M hL hle⟩, ⟨k1⟩, k2⟩
    · refine hno (fun e he => ?_)
      have s : So (d :: M) := hL ▸ psort_so T
      have he2 : e ∈ d :: M := hL ▸ (psort_perm T).mem_iff.2 he
      rcases List.mem_cons.1 he2 with rfl | he
      · omega
      · have := (List.pairwise_cons.1 s).1 e he
        rw [nb_iff] at this
        omega
theorem rest_tt (h : TT now T) (ht : U t) : TT t (restT T t) := by
  have hp : ∀ d ∈ restT T t, d ∈ T ∧ t < d.f1 := fun d hd => by
    have h2 := List.mem_filter.1 hd
    have h3 : ¬ d.f1 ≤ t := by simpa using h2.2
    exact ⟨(psort_perm T).mem_iff.1 h2.1, by omega⟩
  refine ⟨(((psort_perm T).map _).nodup_iff.2 h.nd).sublist (List.filter_sublist.map _), fun d hd => h.wf d (hp d hd).1, fun d hd => h.u d (hp d hd).1, fun d hd => Int.le_of_lt (hp d hd).2, ht⟩
theorem adv_J (h : WJ N X W B now T) (hlen : T.length ≤ 90000) {n : Int} (hu : U n) (ho : now + n = t) (ht : U t) : Calls Tryd.prog 32 #[ptr B, .int .u64 n] W fun e w' => ∃ v, e = .returned (.tuple #[v, .int .i64 0]) ∧ Aside0 (Kd.R k31 31 w' W.heap.size (fun k => v.ownBlock = some k) v (dueT T t) ∧ WJ N (fun k => X k ∨ v.ownBlock = some k) w' B t (restT T t) ∧ Fr (KX N X) W w') := by
  obtain ⟨⟨F, h1, h2⟩, h3, h4, h5⟩ := h
  refine (adv_W h1 h5 h4 hlen hu ho ht).mono ?_
  rintro e w' ⟨v, rfl, hg⟩
  obtain ⟨F', kR, k1, k2, k3⟩ := hg.out
  refine ⟨v, rfl, ⟨Kd.R_mono (Kd.R_tight2 rfl kR) (fun k hk => hk.1.symm), ⟨⟨F', k1, fun k hk e => ?_⟩, fun k hk => ?_, rest_tt h4 ht, h5.fr k3 (fun k hk => (h1.lt k hk).1)⟩, k3.weak (fun k hk => ⟨(h1.lt k hk).1, fun hx => h2 k hx hk⟩)⟩⟩
  · rcases hk with hk | hk
    · rcases k2 k e with e | e
      · exact h2 k hk e
      · have := h3 k hk
        omega
    · exact kR.1 k hk e
  · rcases hk with hk | hk
    · exact Nat.lt_of_lt_of_le (h3 k hk) k3.size
    · exact own_lt (own_of_R kR) k hk
theorem advo_J (h : WJ N X W B now T) {n : Int} (hu : U n) (ho : ¬ now + n < 18446744073709551616) : Calls Tryd.prog 32 #[ptr B, .int .u64 n] W fun e w' => e = .returned (.tuple #[.slice none 0 0, .int .i64 14]) ∧ Below W.heap.size W w' := by
  obtain ⟨⟨F, h1, h2⟩, h3, h4, h5⟩ := h
  exact adv_over h1 h5 h4.un hu ho
end
end Go.Proofs.YtedolmjealgeoaaDoor.Wh

set_option linter.unusedVariables false
namespace Go.Proofs.YtedolmjealgeoaaDoor.Wh
open Go.RowKit Go.Maps Go.Proofs.YtedolmjealgeoaaDoor.PBase Go.Proofs.YtedolmjealgeoaaDoor.Cat Go.Proofs.YtedolmjealgeoaaDoor.Rg Go.Proofs.YtedolmjealgeoaaDoor.Tk Go.Proofs.YtedolmjealgeoaaDoorW.PrintWords Go.Proofs.YtedolmjealgeoaaDoorW.PrintLast Go.Proofs.YtedolmjealgeoaaDoorW.PrintMore
theorem wf_sm {x : Int} (h0 : 0 ≤ x) (h1 : x < 1000000) : (Lit.int .i64 x).wf = true := Go.WalkArith.wf_i64 (by omega)
theorem U_sm {x : Int} (h0 : 0 ≤ x) (h1 : x < 1000000) : U x := by unfold U; omega
abbrev wk2 : List S31 := [⟨2, 70⟩, ⟨1, 5⟩]
theorem wk_ps : psort wk2 = [⟨1, 5⟩, ⟨2, 70⟩] := psort_of (by
  refine List.pairwise_cons.2 ⟨fun x hx => ?_, List.pairwise_singleton _ _⟩
  rw [List.mem_singleton.1 hx, nb_iff]
  decide) (List.Perm.swap _ _ _)
theorem wk_due : dueT wk2 64 = [⟨1, 5⟩] ∧ restT wk2 64 = [⟨2, 70⟩] := due_split (by rw [wk_ps]; rfl) (fun e he => by rw [List.mem_singleton.1 he]; decide) (fun e he => by rw [List.mem_singleton.1 he]; decide)
theorem wk_i1 : insR 0 [] 1 5 = 0 ∧ insT 0 [] 1 5 = [⟨1, 5⟩] := by simp [insR, insT, ids]
theorem wk_i2 : insR 0 [⟨1, 5⟩] 2 70 = 0 ∧ insT 0 [⟨1, 5⟩] 2 70 = wk2 := by simp [insR, insT, ids]
theorem wk_i3 : insR 0 wk2 2 9 = 8 ∧ insT 0 wk2 2 9 = wk2 := by simp [insR, insT, ids]
theorem wk_i4 : insR 0 wk2 3 0 = 9 ∧ insT 0 wk2 3 0 = wk2 := by simp [insR, insT, ids]
theorem wk_t : tof wk2 1 = some 5 ∧ tof wk2 2 = some 70 ∧ tof [⟨2, 70⟩] 2 = some 70 := by simp [tof]
theorem wk_p1 : placeV 0 5 = .complex .f64 4617315517961601024 0 := by
  unfold placeV
  rw [show lv 5 0 = 0 by decide +kernel, if_pos (by decide), show dg 5 0 = 5 by decide +kernel, show fl 5 = 4617315517961601024 by decide +kernel, show fl ((0 : Nat) : Int) = 0 by decide +kernel]
theorem wk_p2 : placeV 0 70 = .complex .f64 4607182418800017408 4607182418800017408 := by
  unfold placeV
  rw [show lv 70 0 = 1 by decide +kernel, if_pos (by decide), show dg 70 1 = 1 by decide +kernel, show fl 1 = 4607182418800017408 by decide +kernel, show fl ((1 : Nat) : Int) = 4607182418800017408 by decide +kernel]
theorem wk_p3 : placeV 64 70 = .complex .f64 4618441417868443648 0 := by
  unfold placeV
  rw [show lv 70 64 = 0 by decide +kernel, if_pos (by decide), show dg 70 0 = 6 by decide +kernel, show fl 6 = 4618441417868443648 by decide +kernel, show fl ((0 : Nat) : Int) = 0 by decide +kernel]
set_option maxHeartbeats 8000000 in
set_option maxRecDepth 100000 in
theorem wakes6 (W : World) (hT : Tz.TabOk W) : Calls Tryd.prog 30 #[] W fun e w' => e = .returned (.bool true) ∧ Below W.heap.size W w' := by
  have HN := Aside0.mk (new_J W hT (U_sm (x := 0) (by omega) (by omega)))
  clear hT
  go_enter Tryd.func30, Tryd.ntmps30
  go_upto_region 2 with (go_at_call 35; refine HN.out.mono ?_; rintro e w1 ⟨B, rfl, hJ0, hb⟩)
  have hb := Aside0.mk hb
  clear HN
  go_upto_region 4 with (first
    | (go_at_call 36; have hq := ins_J hJ0.out 1 5 (wf_sm (by omega) (by omega)) (U_sm (by omega) (by omega)) (by simp) 0 wk_i1.1 [⟨1, 5⟩] wk_i1.2; refine hq.mono ?_; clear hq hJ0; rintro e w2 ⟨rfl, hJ1, hf1⟩)
    | (go_at_call 36; have hq := ins_J hJ1.out 2 70 (wf_sm (by omega) (by omega)) (U_sm (by omega) (by omega)) (by simp) 0 wk_i2.1 wk2 wk_i2.2; refine hq.mono ?_; clear hq hJ1; rintro e w3 ⟨rfl, hJ2, hf2⟩)
    | (go_at_call 36; have hq := ins_J hJ2.out 2 9 (wf_sm (by omega) (by omega)) (U_sm (by omega) (by omega)) (by simp) 8 wk_i3.1 wk2 wk_i3.2; refine hq.mono ?_; clear hq hJ2; rintro e w4 ⟨rfl, hJ3, hf3⟩)
    | (go_at_call 36; have hq := ins_J hJ3.out 3 0 (wf_sm (by omega) (by omega)) (U_sm (by omega) (by omega)) (by simp) 9 wk_i4.1 wk2 wk_i4.2; refine hq.mono ?_; clear hq hJ3; rintro e w5 ⟨rfl, hJ4, hf4⟩))
  have hf := Aside0.mk ((((Fr.of_b0 hb.out).trans hf1.b0).trans hf2.b0).trans (hf3.b0.trans hf4.b0))
  clear hf1 hf2 hf3 hf4
  have hp1 := place_J hJ4.out 1 (wf_sm (by omega) (by omega)) (some 5) wk_t.1
  rw [show placeO 0 (some 5) = placeV 0 5 from rfl, wk_p1] at hp1
  have HP1 := Aside0.mk hp1
  clear hp1
  go_upto_region 5 with (go_at_call 46; refine HP1.out.mono ?_; rintro e w6 ⟨rfl, hb6⟩)
  have hJ6 := Aside0.mk (hJ4.out.step hb6)
  have hp2 := place_J hJ6.out 2 (wf_sm (by omega) (by omega)) (some 70) wk_t.2.1
  rw [show placeO 0 (some 70) = placeV 0 70 from rfl, wk_p2] at hp2
  have HP2 := Aside0.mk hp2
  clear hp2
  go_upto_region 6 with (go_at_call 46; refine HP2.out.mono ?_; rintro e w7 ⟨rfl, hb7⟩)
  have hJ7 := Aside0.mk (hJ6.out.step hb7)
  have HA := Aside0.mk (adv_J hJ7.out (by decide) (n := 64) (t := 64) (U_sm (by omega) (by omega)) (by omega) (U_sm (by omega) (by omega)))
  go_upto_region 7 with (go_at_call 32; refine HA.out.mono ?_; rintro e w8 ⟨v, rfl, hg⟩)
  obtain ⟨hR, hJ8, hf8⟩ := hg.out
  rw [wk_due.1] at hR
  rw [wk_due.2] at hJ8
  obtain ⟨A, c, rfl, hc, hC⟩ := Kd.R_reads hR
  have hJ8 := Aside0.mk hJ8
  have hp3 := place_J hJ8.out 2 (wf_sm (by omega) (by omega)) (some 70) wk_t.2.2
  rw [show placeO 64 (some 70) = placeV 64 70 from rfl, wk_p3] at hp3
  have HP3 := Aside0.mk hp3
  have HC := Aside0.mk hC
  have hff := Aside0.mk ((hf.out.trans ((Fr.of_b0 hb6).trans (Fr.of_b0 hb7))).trans hf8.b0)
  clear hp3 hg hR hC hf8 hb6 hb7
  go_upto_region 8 with (go_at_call 46; refine HP3.out.mono ?_; rintro e w9 ⟨rfl, hb9⟩)
  obtain ⟨ad, e1, x0, x1⟩ := at_T31 (Kd.C_below HC.out hb9) 0 (by omega) (by simp)
  subst e1
  replace x0 : w9.cell? ad = some (.int .i64 1) := x0
  replace x1 : w9.cell? ⟨ad.block, ad.off + 1, none⟩ = some (.int .u64 5) := x1
  have hJ9 := Aside0.mk (hJ8.out.step hb9)
  have o1 : (FloatKind.f64.format.order 4617315517961601024 4617315517961601024 == some .eq) = true := by decide +kernel
  have o2 : (FloatKind.f64.format.order 4607182418800017408 4607182418800017408 == some .eq) = true := by decide +kernel
  have o3 : (FloatKind.f64.format.order 4618441417868443648 4618441417868443648 == some .eq) = true := by decide +kernel
  have o4 : (FloatKind.f64.format.order 0 0 == some .eq) = true := by decide +kernel
  go_wp2_with (go_at_call 34; refine (now_J hJ9.out).mono ?_; rintro e w10 ⟨rfl, hb10⟩)
  go_ret
  exact ⟨rfl, ((hff.out.trans (Fr.of_b0 hb9)).trans (Fr.of_b0 hb10)).below (Nat.le_refl _) (fun k h => h)⟩
end Go.Proofs.YtedolmjealgeoaaDoor.Wh

namespace Go.Proofs.YtedolmjealgeoaaDoor.Wh
open Go.RowKit Go.Proofs.YtedolmjealgeoaaDoor.PBase Go.Proofs.YtedolmjealgeoaaDoorW.PrintWords Go.Proofs.YtedolmjealgeoaaDoorW.PrintLast Go.Proofs.YtedolmjealgeoaaDoorW.PrintMore
theorem eq74 (a0 a1 a2 a3 a4 a5 a6 : Int) (w : World) : (Op.equalIn 10000 74 (.agg #[.int .i64 a0, .int .i64 a1, .int .i64 a2, .int .i64 a3, .int .i64 a4, .int .i64 a5, .int .i64 a6]) (.agg #[.int .i64 a0, .int .i64 a1, .int .i64 a2, .int .i64 a3, .int .i64 a4, .int .i64 a5, .int .i64 a6])).run Tryd.prog w = .ok true w := by
  obtain ⟨i, hi⟩ : ∃ i, Tryd.prog.info? 3 = some i := Option.isSome_iff_exists.1 (by kernel_rfl)
  have hc : Tryd.prog.cellsOf 3 = 1 := by kernel_rfl
  have h := run_equalIn_array (P := Tryd.prog) w 9999 #[.int .i64 a0, .int .i64 a1, .int .i64 a2, .int .i64 a3, .int .i64 a4, .int .i64 a5, .int .i64 a6] #[.int .i64 a0, .int .i64 a1, .int .i64 a2, .int .i64 a3, .int .i64 a4, .int .i64 a5, .int .i64 a6] Tryd.underlying74 hi
  rw [h, hc]
  simp [Op.eqItems, List.range, List.range.loop, part, run_equalIn_int, Tryd.underlying3, go_sem]
theorem guard74 : Tryd.prog.eqGuardType Tryd.prog.depth 74 = false := by kernel_rfl
end Go.Proofs.YtedolmjealgeoaaDoor.Wh
