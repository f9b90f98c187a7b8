/- The reference's ring: Take and Mask as calls. Conditions: the ring lies in memory as told. -/
import Derived.Test.YtedolmjealgeoaaDoorRx
import Derived.Test.YtedolmjealgeoaaDoorMr
set_option linter.unusedVariables false
namespace Go.Proofs.YtedolmjealgeoaaDoor.Rg
open Go.RowKit Go.Maps Go.Proofs.YtedolmjealgeoaaDoor.PBase Go.Proofs.YtedolmjealgeoaaDoor.Cat Go.Proofs.YtedolmjealgeoaaDoorW.PrintWords Go.Proofs.YtedolmjealgeoaaDoorW.PrintLast Go.Proofs.YtedolmjealgeoaaDoorW.PrintMore
theorem takeT_step {T : List S114} {i : Nat} (hi : i < T.length) (slot : Int) : takeT (T.take (i + 1)) slot = takeT (T.take i) slot ++ (if T[i].f0 = slot then [] else [T[i]]) := by
  unfold takeT
  rw [List.take_succ_eq_append_getElem hi, List.filter_append]
  congr 1
  by_cases h : T[i].f0 = slot
  · rw [if_pos h, List.filter_cons_of_neg (by simpa using h)]
    rfl
  · rw [if_neg h, List.filter_cons_of_pos (by simpa using h)]
    rfl
theorem takeT_len (T : List S114) (slot : Int) : (takeT T slot).length ≤ T.length := List.length_filter_le _ _
section
variable {N : Nat} {w w' : World} {R : Nat} {v : Value} {T : List S114}
set_option maxHeartbeats 4000000 in
set_option maxRecDepth 100000 in
/-- The reference's Take. -/
theorem rtake_calls (h : RS N w R v T) (slot : Int) (hl : T.length ≤ 100000) :
    Calls Tryd.prog 21 #[.pointer (some ⟨R, 0, none⟩), .int .i64 slot] w fun e w' => ∃ v0, e = .returned v0 ∧ Aside0 (Kd.R k31 31 w' w.heap.size (fun k => v0.ownBlock = some k) v0 (psort (atS T slot)) ∧ ∃ v', RS N w' R v' (takeT T slot) ∧ Fr (X2 R v) w w' ∧ (∀ b, v'.ownBlock = some b → w.heap.size ≤ b ∧ v0.ownBlock ≠ some b)) := by
  have c3 : w.cell? ⟨R, 0, none⟩ = some v := (blk_cell h.g 0).trans rfl
  have hRlt := blk_lt h.g
  have hL := rlist_calls h slot hl
  have H := Aside0.mk h
  obtain ⟨A, c, rfl, hc, hC⟩ := Kd.R_reads h.r
  have HC := Aside0.mk hC
  have HC3 := Aside0.mk c3
  clear hC hc h c3
  go_enter Tryd.func21, Tryd.ntmps21
  go_wp2_with (go_at_call 66; refine hL.mono ?_; rintro e w1 ⟨v0, rfl, hR0, hb1⟩; clear hL)
  have HB1 := Aside0.mk hb1
  have c4 : w1.cell? ⟨R, 0, none⟩ = some (.slice A T.length c) := (HB1.out.cell hRlt).trans HC3.out
  clear hb1
  go_loopg [6, 7] T.length (fun gg v6 v7 wr => ∃ (i : Nat) (vo : Value), vo = v6 ∧ v7 = .int .i64 i ∧ i ≤ T.length ∧ T.length - i ≤ gg ∧ Aside0 (Kd.R k114 114 wr w1.heap.size (fun _ => True) vo (takeT (T.take i) slot)) ∧ Aside0 (Below w1.heap.size w1 wr))
  case atStart => exact ⟨0, _, rfl, rfl, Nat.zero_le _, by omega, ⟨Kd.R_nil _ _ _ _ _⟩, ⟨Below.refl _ _⟩⟩
  case round =>
    obtain ⟨i, vo, rfl, rfl, hil, hgg, HO, HB⟩ := hrel
    have hRlt1 : R < w1.heap.size := Nat.lt_of_lt_of_le hRlt HB1.out.size
    have c5 : wr.cell? ⟨R, 0, none⟩ = some (.slice A T.length c) := (HB.out.cell hRlt1).trans c4
    by_cases hi : i < T.length
    · have hi2 : (i : Int) < (T.length : Int) := by omega
      have p1 := eq_true (show 0 ≤ (i : Int) by omega)
      obtain ⟨ad, e1, hx0, hx1, hx2⟩ := at_T114 (Kd.C_below HC.out (below_step HB1.out HB.out)) (i : Int) (by omega) hi2
      subst e1
      rw [Int.toNat_natCast, rd114 T i hi] at hx0 hx1 hx2
      by_cases hd : T[i].f0 = slot
      · have HR1 : Aside0 (Kd.R k114 114 wr w1.heap.size (fun _ => True) vo (takeT (T.take (i + 1)) slot)) := ⟨by rw [takeT_step hi, if_pos hd, List.append_nil]; exact HO.out⟩
        go_wp2
        go_roundg (T.length - (i + 1))
        case measure => omega
        case rel => exact ⟨i + 1, _, rfl, by go_num, by omega, Nat.le_refl _, HR1, HB⟩
      · have hba := below_alloc (Below.refl wr.heap.size wr) (.cells #[.int .i64 T[i].f0, .int .i64 T[i].f1.f0, .int .u64 T[i].f1.f1] 114)
        obtain ⟨v1, w2, hrun, hR1, hb1⟩ := C3.run_rows 26 (some ⟨wr.heap.size, 0, none⟩) 1 1 [T[i]] (Kd.R_below HO.out hba) (C3.C_one (w := wr) T[i]) (Nat.le_trans HB.out.size hba.size) (by have := takeT_len (T.take i) slot; rw [List.length_take] at this; omega)
        have HR1 : Aside0 (Kd.R k114 114 w2 w1.heap.size (fun _ => True) v1 (takeT (T.take (i + 1)) slot)) := ⟨by rw [takeT_step hi, if_neg hd]; exact hR1⟩
        have HB2 : Aside0 (Below w1.heap.size w1 w2) := ⟨(below_step HB.out hba).trans hb1⟩
        clear hR1 hb1 hba
        go_wp2_with (at_builtin; refine Lib.wpList_append_run _ (by rfl) (.tmp 30) (.tmp 38) 26 26 (by rfl) _ (.slice (some ⟨wr.heap.size, 0, none⟩) 1 1) (by rfl) (by rfl) v1 w2 hrun ?_)
        go_roundg (T.length - (i + 1))
        case measure => omega
        case rel => exact ⟨i + 1, _, rfl, by go_num, by omega, Nat.le_refl _, HR1, HB2⟩
    · have hi2 : ¬ (i : Int) < (T.length : Int) := by omega
      have HO2 := HO.out
      rw [List.take_of_length_le (by omega)] at HO2
      have hg5 := blk_below H.out.g (below_step HB1.out HB.out)
      have hfz := blk_frozen hg5 0
      obtain ⟨A6, c6, rfl⟩ := Kd.R_slice HO2
      have HO3 := Aside0.mk HO2
      have HG5 := Aside0.mk hg5
      clear HO2 hg5
      go_wp2
      go_ret
      have hat := own_base (C3.own_of_R HO3.out)
      obtain ⟨k1, k2⟩ := H.out.put2 (Fr.of_below (below_step HB1.out HB.out)) (Kd.R_lower HO3.out (Nat.le_trans (Nat.le_trans H.out.nr (Nat.le_of_lt hRlt)) HB1.out.size)) (.inr (fun b hb => Nat.le_trans HB1.out.size (hat b hb)))
      have hv0 : ∀ k, v0.ownBlock = some k → w.heap.size ≤ k ∧ k < w1.heap.size := fun k hk => ⟨own_base (own_of_R hR0.out) k hk, own_lt (own_of_R hR0.out) k hk⟩
      refine ⟨_, rfl, ⟨?_, _, k1, k2, fun b hb => ⟨Nat.le_trans HB1.out.size (hat b hb), fun e => ?_⟩⟩⟩
      · have ht := Kd.R_tight2 rfl hR0.out
        refine Kd.R_mono (Kd.R_kept (ok := fun k => v0.ownBlock = some k) (Kd.R_mono ht (fun k hk => hk.1.symm)) (S := fun k => k = R) (W2 := wr.setCell ⟨R, 0, none⟩ (.slice A6 (takeT T slot).length c6)) ⟨?_, fun j hj hn => ?_⟩ (fun k hk e => by have := (hv0 k hk).1; omega)) (fun k hk => hk)
        · exact Nat.le_trans HB.out.size ((Fr.set wr R 0 (.slice A6 (takeT T slot).length c6)).size)
        · exact ((Fr.set wr R 0 (.slice A6 (takeT T slot).length c6)).blk j (Nat.lt_of_lt_of_le hj HB.out.size) hn).trans (HB.out.block j hj)
      · have h1 := (hv0 b e).2
        have h2 := hat b hb
        omega
end
end Go.Proofs.YtedolmjealgeoaaDoor.Rg
