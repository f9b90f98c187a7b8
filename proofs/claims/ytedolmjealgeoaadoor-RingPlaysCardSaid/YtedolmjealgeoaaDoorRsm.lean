/- law05.same as a call: the ring and the reference's answer alike. Conditions: the same lies in both. -/
import Derived.Test.YtedolmjealgeoaaDoorRy
import Derived.Test.YtedolmjealgeoaaDoorRm
import Derived.Deep.RegionHeld3
set_option linter.unusedVariables false
namespace Go.Proofs.YtedolmjealgeoaaDoor.Rg
open Go.RowKit Go.Maps Go.Proofs.YtedolmjealgeoaaDoor.PBase Go.Proofs.YtedolmjealgeoaaDoor.Cat Go.Proofs.YtedolmjealgeoaaDoorW.PrintWords Go.Proofs.YtedolmjealgeoaaDoorW.PrintLast Go.Proofs.YtedolmjealgeoaaDoorW.PrintMore
theorem dues_from (L : List S31) (hl : L.length ≤ 17592186044416) : ∀ (d : Nat) (i : Int), 0 ≤ i → (L.length : Int) - i = d → remontoirkeep_Dues.l0 (d + 1) L L i = some true
  | 0, i, h0, hd => by
    unfold remontoirkeep_Dues.l0
    rw [if_neg (by omega)]
  | d + 1, i, h0, hd => by
    have hi : i < (L.length : Int) := by omega
    have hw : wrap64 (i + 1) = i + 1 := by unfold wrap64; omega
    rw [remontoirkeep_Dues.l0, if_pos hi, if_pos h0, if_pos hi, if_neg (by simp), hw]
    exact dues_from L hl d (i + 1) (by omega) (by omega)
theorem dues_calls {L : List S31} {W : World} {b1 b2 : Nat} {o1 o2 : Nat → Prop} {v1 v2 : Value} (h1 : Kd.R k31 31 W b1 o1 v1 L) (h2 : Kd.R k31 31 W b2 o2 v2 L) (hl : L.length ≤ 1000000) : Calls Tryd.prog 19 #[v1, v2] W fun e w' => e = .returned (.bool true) ∧ Below W.heap.size W w' := by
  obtain ⟨A1, c1, rfl, k1, C1⟩ := Kd.R_reads h1
  obtain ⟨A2, c2, rfl, k2, C2⟩ := Kd.R_reads h2
  have hf : remontoirkeep_Dues.f (L.length + 1) L L = some true := by
    unfold remontoirkeep_Dues.f
    rw [if_pos rfl]
    exact dues_from L (Nat.le_trans hl (by decide)) L.length 0 (Int.le_refl 0) (by omega)
  refine (remontoirkeep_Dues.calls _ A1 c1 L A2 c2 L true W C1 k1 C2 k2 hf).mono ?_
  rintro e w' ⟨rfl, h⟩
  exact ⟨rfl, h.below⟩
theorem hs_ring {U : List S114} (p : PT U) (j : Int) (h0 : 0 ≤ j) (h1 : j < 64) : Mk.hs (Mk.set_ 0 (U.map (·.f0))) j = decide (atS U j ≠ []) := by
  rw [Mk.hs_set, Mk.hs_zero, Bool.false_or, decide_eq_true (⟨h0, h1⟩ : 0 ≤ j ∧ j < 64), Bool.and_true, decide_eq_decide]
  unfold atS
  constructor
  · intro h e
    obtain ⟨l, hl, rfl⟩ := List.mem_map.1 h
    have := List.map_eq_nil_iff.1 e
    rw [List.filter_eq_nil_iff] at this
    exact this l hl (by simp)
  · intro h
    obtain ⟨d, hd⟩ := List.exists_mem_of_ne_nil _ h
    obtain ⟨l, hl, _⟩ := List.mem_map.1 hd
    have h2 := List.mem_filter.1 hl
    exact List.mem_map.2 ⟨l, h2.1, by simpa using h2.2⟩
theorem mask_same {T U : List S114} (p : PT U) (hp : T.Perm U) {fu : Int} (hu : Mk.U fu) (hb : ∀ j : Nat, j < 64 → Mk.hs fu j = decide (atS T j ≠ [])) : fu = Mk.set_ 0 (U.map (·.f0)) := by
  refine Mk.ext hu (Mk.U_set _ Mk.U_zero) (fun i h0 h1 => ?_)
  have h := hb i.toNat (by omega)
  rw [Int.toNat_of_nonneg h0] at h
  rw [h, hs_ring p i h0 h1, atS_nil hp]
section
variable {N : Nat} {X : Nat → Prop} {w : World} {R V : Nat} {v : Value} {T U : List S114}
set_option maxHeartbeats 4000000 in
set_option maxRecDepth 100000 in
theorem same_calls (hq : RJ N X w R T) (h : RS N w V v U) (hp : T.Perm U) (p : PT U) (hl : T.length ≤ 100000) (hT : Tz.TabOk w) :
    Calls Tryd.prog 23 #[.pointer (some ⟨R, 0, none⟩), .pointer (some ⟨V, 0, none⟩)] w fun e w' => e = .returned (.bool true) ∧ Below w.heap.size w w' := by
  have hlU : U.length ≤ 100000 := by rw [← hp.length_eq]; exact hl
  have hle : (U.length : Int) = T.length := by rw [hp.length_eq]
  have HQ := Aside0.mk hq
  have H := Aside0.mk h
  have HT := Aside0.mk hT
  have HP := Aside0.mk hp
  have PU := Aside0.mk p
  have HL := Aside0.mk hl
  have HLU := Aside0.mk hlU
  have hVlt := blk_lt h.g
  have c0 : w.cell? ⟨V, 0, none⟩ = some v := (blk_cell h.g 0).trans rfl
  obtain ⟨A, c, rfl, hc, hC⟩ := Kd.R_reads h.r
  have hlen : ((U.length : Nat) : Int) = (T.length : Int) := hle
  obtain ⟨fm, hfm⟩ : ∃ fm, fm = Mk.set_ 0 (U.map (·.f0)) := ⟨_, rfl⟩
  have HFM := Aside0.mk hfm
  clear hq h hT hp p hl hlU hC hc hle hfm
  go_enter Tryd.func23, Tryd.ntmps23
  have hd1 : decide ((T.length : Int) = (U.length : Int)) = true := decide_eq_true hlen.symm
  have hd2 : ((T.length : Int) == (U.length : Int)) = true := by rw [hlen]; exact beq_self_eq_true _
  have hrm : ∀ W, Below w.heap.size w W → Calls Tryd.prog 68 #[.pointer (some ⟨V, 0, none⟩)] W fun e w' => e = .returned (.int .u64 fm) ∧ Below W.heap.size W w' := fun W hW => by
    rw [HFM.out]; exact rmask_calls (H.out.step hW) HLU.out
  have hmm : ∀ W, Below w.heap.size w W → Calls Tryd.prog 28 #[.pointer (some ⟨R, 0, none⟩)] W fun e w' => e = .returned (.int .u64 fm) ∧ Below W.heap.size W w' := fun W hW => by
    refine (mask_J (HQ.out.step hW)).mono ?_
    rintro e w' ⟨fu, rfl, hu, hbits, hb⟩
    rw [mask_same PU.out HP.out hu hbits, HFM.out]
    exact ⟨rfl, hb⟩
  have hrr : ∀ (W : World) (i : Int), Below w.heap.size w W → ∃ r : Int × Bool, (Calls Tryd.prog 26 #[.pointer (some ⟨R, 0, none⟩), .int .i64 i] W fun e w' => e = .returned (.tuple #[.int .i64 r.1, .bool r.2]) ∧ Below W.heap.size W w') ∧ ∀ W', Calls Tryd.prog 69 #[.int .u64 fm, .int .i64 i] W' fun e w' => e = .returned (.agg #[.int .i64 r.1, .bool r.2]) ∧ Below W'.heap.size W' w' := fun W i hW => by
    obtain ⟨r, hr, hI⟩ := Mk.rround (m := fm) (by rw [HFM.out]; exact Mk.U_set _ Mk.U_zero) i
    refine ⟨r, ?_, fun W' => remontoirref04_Round.calls _ _ _ _ _ W' (hr 0)⟩
    refine (first_J (HQ.out.step hW) (HT.out.below hW) i).mono ?_
    rintro e w' ⟨fu, r', rfl, hu, hbits, hI', hb⟩
    have e1 := mask_same PU.out HP.out hu hbits
    rw [← HFM.out] at e1
    subst e1
    rw [Mk.IsRound.unique hI' hI]
    exact ⟨rfl, hb⟩
  have HRM := Aside0.mk hrm
  have HMM := Aside0.mk hmm
  have HRR := Aside0.mk hrr
  have HC0 := Aside0.mk c0
  clear hrm hmm hrr
  go_upto_region 1 with (fail)
  have hBc := Aside0.mk (below_drew1 (Below.refl w.heap.size w))
  go_region_held3 (fun w' => w'.cell? ⟨V, 0, none⟩ = some (.slice A U.length c)) (first | exact (hBc.out.cell hVlt).trans HC0.out | go_keep)
    (first
      | (go_at_call 25; refine (len_J (HQ.out.step hBc.out)).mono ?_; rintro e w1 ⟨rfl, hb1⟩; have hBc := Aside0.mk (below_step hBc.out hb1); clear hb1)
      | (go_at_call 28; refine (HMM.out _ hBc.out).mono ?_; rintro e w1 ⟨rfl, hb1⟩; have hBc := Aside0.mk (below_step hBc.out hb1); clear hb1)
      | (go_at_call 68; refine (HRM.out _ hBc.out).mono ?_; rintro e w1 ⟨rfl, hb1⟩; have hBc := Aside0.mk (below_step hBc.out hb1); clear hb1))
  have HB0 := Aside0.mk hBc.out
  clear c0
  have hll : ∀ (W : World) (i : Int), Below w.heap.size w W → Calls Tryd.prog 66 #[.pointer (some ⟨V, 0, none⟩), .int .i64 i] W fun e w' => ∃ v0, e = .returned v0 ∧ Aside0 (Kd.R k31 31 w' W.heap.size (fun _ => True) v0 (lst T i)) ∧ Below W.heap.size W w' := fun W i hW => by
    have h1 := rlist_calls (H.out.step hW) i HLU.out
    rw [psort_congr (atS_perm HP.out.symm i), lst_eq (PU.out.perm HP.out.symm)] at h1
    exact h1
  have HLL := Aside0.mk hll
  have hlstl : ∀ i, (lst T i).length ≤ 1000000 := fun i => by
    rw [← lst_eq (PU.out.perm HP.out.symm), psort_len]
    exact Nat.le_trans (atS_len T i) (Nat.le_trans HL.out (by decide))
  have HLS := Aside0.mk hlstl
  clear hll hlstl
  go_wp2_with (fail)
  go_loopg [5] 66 (fun gg v5 wr => ∃ i : Int, v5 = .int .i64 i ∧ -1 ≤ i ∧ i ≤ 65 ∧ 65 - i ≤ gg ∧ Aside0 (Below w.heap.size w wr))
  case atStart => exact ⟨-1, rfl, by omega, by omega, by omega, hBc⟩
  case round =>
    obtain ⟨i, rfl, hi0, hi1, hgg, HB⟩ := hrel
    by_cases hi : i ≤ 64
    · obtain ⟨W1, hW1⟩ : ∃ W1, W1 = wr := ⟨_, rfl⟩
      go_wp2_with (first
        | (go_at_call 22; refine (list_J (HQ.out.step HB.out) i HL.out).mono ?_; rintro e w1 ⟨v1, rfl, hR1, hb1⟩; have HB1 := Aside0.mk (below_step HB.out hb1); have HR1 := Aside0.mk hR1; clear hR1 hb1)
        | (go_at_call 66; refine (HLL.out _ i HB1.out).mono ?_; rintro e w2 ⟨v2, rfl, HR2, hb2⟩; have HB2 := Aside0.mk (below_step HB1.out hb2); have HR3 := Aside0.mk (Kd.R_below HR1.out hb2); clear hb2)
        | (go_at_call 19; refine (dues_calls HR3.out HR2.out (HLS.out i)).mono ?_; rintro e w3 ⟨rfl, hb3⟩; have HB3 := Aside0.mk (below_step HB2.out hb3); clear hb3; obtain ⟨r, hr1, hr2⟩ := HRR.out _ i HB3.out)
        | (go_at_call 26; refine hr1.mono ?_; rintro e w4 ⟨rfl, hb4⟩; have HB4 := Aside0.mk (below_step HB3.out hb4); clear hb4 hr1)
        | (go_at_call 68; refine (HRM.out _ HB4.out).mono ?_; rintro e w5 ⟨rfl, hb5⟩; have HB5 := Aside0.mk (below_step HB4.out hb5); clear hb5)
        | (go_at_call 69; refine (hr2 _).mono ?_; rintro e w6 ⟨rfl, hb6⟩; have HB6 := Aside0.mk (below_step HB5.out hb6); clear hb6))
      go_roundg ((64 - i).toNat)
      case measure => omega
      case rel => exact ⟨i + 1, by go_num, by omega, by omega, by omega, HB6⟩
    · go_wp2_with (fail)
      go_ret
      exact ⟨rfl, HB.out⟩
end
end Go.Proofs.YtedolmjealgeoaaDoor.Rg
