/- The reference's ring: Drop and List as calls. Conditions: the ring lies in memory as told. -/
import Derived.Test.YtedolmjealgeoaaDoorRd
set_option linter.unusedVariables false
namespace Go.Proofs.YtedolmjealgeoaaDoor.Rg
open Go.RowKit Go.Maps Go.Proofs.YtedolmjealgeoaaDoor.PBase Go.Proofs.YtedolmjealgeoaaDoor.Cat Go.Proofs.YtedolmjealgeoaaDoorW.PrintWords Go.Proofs.YtedolmjealgeoaaDoorW.PrintLast Go.Proofs.YtedolmjealgeoaaDoorW.PrintMore
theorem dropT_at : ∀ {T : List S114} (k : Nat) (hk : k < T.length), (tid T).Nodup → T.take k ++ T.drop (k + 1) = dropT T T[k].f1.f0
  | [], k, hk, _ => absurd hk (by simp)
  | l :: T, 0, _, hn => by
    have h := (List.nodup_cons.1 hn).1
    show T = (l :: T).filter _
    rw [List.filter_cons_of_neg (by simp)]
    exact (drop_none (T := T) (id := l.f1.f0) h).symm
  | l :: T, k + 1, hk, hn => by
    have h := List.nodup_cons.1 hn
    have hk2 : k < T.length := by simpa using hk
    have ih := dropT_at k hk2 h.2
    have hne : l.f1.f0 ≠ T[k].f1.f0 := fun e => h.1 (tid_in.2 ⟨T[k], List.getElem_mem hk2, e.symm⟩)
    show l :: (T.take k ++ T.drop (k + 1)) = (l :: T).filter _
    rw [List.filter_cons_of_pos (by simpa using hne), ih]
    rfl
theorem slotOf_at {T : List S114} (hn : (tid T).Nodup) (k : Nat) (hk : k < T.length) : slotOf T T[k].f1.f0 = some T[k].f0 := slotOf_mem hn (List.getElem_mem hk)
theorem lst_eq {T : List S114} (p : PT T) (slot : Int) : psort (atS T slot) = lst T slot := by
  unfold lst
  split
  · rfl
  · rename_i h
    have : atS T slot = [] := by
      unfold atS
      rw [List.filter_eq_nil_iff.2, List.map_nil]
      intro l hl e
      have := p.sl l hl
      have : l.f0 = slot := by simpa using e
      omega
    rw [this]
    simp [psort]
theorem atS_step {T : List S114} {i : Nat} (hi : i < T.length) (slot : Int) : atS (T.take (i + 1)) slot = atS (T.take i) slot ++ (if T[i].f0 = slot then [T[i].f1] else []) := by
  unfold atS
  rw [List.take_succ_eq_append_getElem hi, List.filter_append, List.map_append]
  congr 1
  by_cases h : T[i].f0 = slot
  · rw [if_pos h, List.filter_cons_of_pos (by simpa using h)]
    rfl
  · rw [if_neg h, List.filter_cons_of_neg (by simpa using h)]
    rfl
theorem atS_len (T : List S114) (slot : Int) : (atS T slot).length ≤ T.length := by
  unfold atS
  rw [List.length_map]
  exact List.length_filter_le _ _
section
variable {N : Nat} {w w' : World} {R : Nat} {v : Value} {T : List S114}
theorem rdrop_no (h : RS N w R v T) (id : Int) (hp : plc id T 0 = -1) (hl : T.length ≤ 100000) :
    Calls Tryd.prog 18 #[.pointer (some ⟨R, 0, none⟩), .int .i64 id] w fun e w' => e = .returned (.agg #[.int .i64 0, .bool false]) ∧ Below w.heap.size w w' := by
  have hbx : Below w.heap.size w (w.alloc (.cells #[.int .i64 0, .bool false] 39)) := below_alloc (Below.refl _ _) _
  have hx := blk_new w (.cells #[.int .i64 0, .bool false] 39)
  have hf := rfind_calls (h.step hbx) id (by omega)
  rw [hp] at hf
  have HX := Aside0.mk hx
  have HBX := Aside0.mk hbx
  clear h hx hbx hp
  go_enter Tryd.func18, Tryd.ntmps18
  go_upto_region 3 with (go_at_call 62; refine hf.mono ?_; rintro e w1 ⟨rfl, hb1⟩; clear hf)
  have hb := Aside0.mk (below_step HBX.out hb1)
  have hX6 := Aside0.mk (blk_below HX.out hb1)
  clear HX HBX hb1
  obtain ⟨X, hXe⟩ : ∃ X, X = w.heap.size := ⟨_, rfl⟩
  rw [← hXe] at hX6 ⊢
  have HXe := Aside0.mk hXe
  clear hXe
  have y0 : w1.cell? ⟨X, 0, none⟩ = some (.int .i64 0) := (blk_cell hX6.out 0).trans rfl
  have y1 : w1.cell? ⟨X, 1, none⟩ = some (.bool false) := (blk_cell hX6.out 1).trans rfl
  have z0 := blk_frozen hX6.out 0
  have z1 := blk_frozen hX6.out 1
  go_wp2
  refine bodyPost_ret (results_cell_row rfl _ _ X 39 #[.int .i64 0, .bool false] (0, 0) _ rfl (blk_set (blk_set hX6.out 0 _) 1 _) Tryd.underlying39 rfl (by kernel_rfl)) rfl ?_
  refine ⟨rfl, ?_⟩
  have f1 : Fr (fun k => k = X) w1 ((w1.setCell ⟨X, 0, none⟩ (.int .i64 0)).setCell ⟨X, 1, none⟩ (.bool false)) := (Fr.set w1 X 0 _).trans (Fr.set _ X 1 _)
  have hb' := hb.out
  exact hb'.trans (f1.below hb'.size (fun k hk => by rw [hk, HXe.out]; exact Nat.le_refl _))
/-- The reference's Drop. -/
theorem rdrop_calls (h : RS N w R v T) (id : Int) (hn : (tid T).Nodup) (hl : T.length ≤ 100000) :
    Calls Tryd.prog 18 #[.pointer (some ⟨R, 0, none⟩), .int .i64 id] w fun e w' => e = .returned (.agg #[.int .i64 ((slotOf T id).getD 0), .bool (slotOf T id).isSome]) ∧ Aside0 (RSo N w R v w' (dropT T id)) := by
  rcases plc_spec id T 0 with ⟨e, hni⟩ | ⟨k, hk, e, ht⟩
  · refine (rdrop_no h id e hl).mono ?_
    rintro e w' ⟨rfl, hb⟩
    rw [slotOf_none.2 hni, drop_none hni]
    exact ⟨rfl, ⟨h.go hb⟩⟩
  · refine (rdrop_yes h id k hk (by rw [e]; omega) _ rfl hl).mono ?_
    rintro e w' ⟨rfl, hg⟩
    rw [dropT_at k hk hn, ht] at hg
    have hs := slotOf_at hn k hk
    rw [ht] at hs
    rw [hs]
    exact ⟨rfl, hg⟩
set_option maxHeartbeats 4000000 in
set_option maxRecDepth 100000 in
/-- The reference's List. -/
theorem rlist_calls (h : RS N w R v T) (slot : Int) (hl : T.length ≤ 100000) :
    Calls Tryd.prog 66 #[.pointer (some ⟨R, 0, none⟩), .int .i64 slot] w fun e w' => ∃ v0, e = .returned v0 ∧ Aside0 (Kd.R k31 31 w' w.heap.size (fun _ => True) v0 (psort (atS T slot))) ∧ Below w.heap.size w w' := by
  have c3 : w.cell? ⟨R, 0, none⟩ = some v := (blk_cell h.g 0).trans rfl
  have hRlt := blk_lt h.g
  obtain ⟨A, c, rfl, hc, hC⟩ := Kd.R_reads h.r
  have HC := Aside0.mk hC
  have HC3 := Aside0.mk c3
  clear hC hc h c3
  go_enter Tryd.func66, Tryd.ntmps66
  go_wp2
  go_loopg [5, 6] T.length (fun gg v5 v6 wr => ∃ (i : Nat) (vo : Value), vo = v5 ∧ v6 = .int .i64 i ∧ i ≤ T.length ∧ T.length - i ≤ gg ∧ Aside0 (Kd.R k31 31 wr w.heap.size (fun _ => True) vo (atS (T.take i) slot)) ∧ Aside0 (Below w.heap.size w wr))
  case atStart => exact ⟨0, _, rfl, rfl, Nat.zero_le _, by omega, ⟨Kd.R_nil _ _ _ _ _⟩, ⟨Below.refl _ _⟩⟩
  case round =>
    obtain ⟨i, vo, rfl, rfl, hil, hgg, HO, HB⟩ := hrel
    have c4 : wr.cell? ⟨R, 0, none⟩ = some (.slice A T.length c) := (HB.out.cell hRlt).trans HC3.out
    by_cases hi : i < T.length
    · have hi2 : (i : Int) < (T.length : Int) := by omega
      have p1 := eq_true (show 0 ≤ (i : Int) by omega)
      obtain ⟨ad, e1, hx0, hx1, hx2⟩ := at_T114 (Kd.C_below HC.out HB.out) (i : Int) (by omega) hi2
      subst e1
      rw [Int.toNat_natCast, rd114 T i hi] at hx0 hx1 hx2
      by_cases hd : T[i].f0 = slot
      · have hba := below_alloc (Below.refl wr.heap.size wr) (.cells #[.int .i64 T[i].f1.f0, .int .u64 T[i].f1.f1] 31)
        obtain ⟨v1, w1, hrun, hR1, hb1⟩ := run_rows 42 (some ⟨wr.heap.size, 0, none⟩) 1 1 [T[i].f1] (Kd.R_below HO.out hba) (C_one (w := wr) T[i].f1) (Nat.le_trans HB.out.size hba.size) (by have := atS_len (T.take i) slot; rw [List.length_take] at this; omega)
        have HR1 : Aside0 (Kd.R k31 31 w1 w.heap.size (fun _ => True) v1 (atS (T.take (i + 1)) slot)) := ⟨by rw [atS_step hi, if_pos hd]; exact hR1⟩
        have HB1 : Aside0 (Below w.heap.size w w1) := ⟨(below_step HB.out hba).trans hb1⟩
        clear hR1 hb1 hba
        go_wp2_with (at_builtin; refine Lib.wpList_append_run _ (by rfl) (.tmp 26) (.tmp 35) 42 42 (by rfl) _ (.slice (some ⟨wr.heap.size, 0, none⟩) 1 1) (by rfl) (by rfl) v1 w1 hrun ?_)
        go_roundg (T.length - (i + 1))
        case measure => omega
        case rel => exact ⟨i + 1, _, rfl, by go_num, by omega, Nat.le_refl _, HR1, HB1⟩
      · have HR1 : Aside0 (Kd.R k31 31 wr w.heap.size (fun _ => True) vo (atS (T.take (i + 1)) slot)) := ⟨by rw [atS_step hi, if_neg hd, List.append_nil]; exact HO.out⟩
        go_wp2
        go_roundg (T.length - (i + 1))
        case measure => omega
        case rel => exact ⟨i + 1, _, rfl, by go_num, by omega, Nat.le_refl _, HR1, HB⟩
    · have hi2 : ¬ (i : Int) < (T.length : Int) := by omega
      have HO2 := HO.out
      rw [List.take_of_length_le (by omega)] at HO2
      obtain ⟨A5, c5, rfl, hc5, hC5⟩ := Kd.R_reads HO2
      have hs := rsort_walk A5 c5 (atS T slot) wr hC5 (by have := atS_len T slot; omega)
      rw [isort_eq] at hs
      clear hC5 HO2 hc5
      go_wp2_with (go_at_call 76; refine hs.mono ?_; rintro e w1 ⟨v0, rfl, hR, hb1⟩)
      go_ret
      exact ⟨_, rfl, ⟨Kd.R_lower hR HB.out.size⟩, below_step HB.out hb1⟩
end
end Go.Proofs.YtedolmjealgeoaaDoor.Rg
