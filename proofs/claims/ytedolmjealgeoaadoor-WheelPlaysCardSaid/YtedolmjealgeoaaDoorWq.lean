/- law06.same as a call: a wheel and the reference's tell the same. Conditions: both lie in memory and hold the same sorted timers. -/
import Derived.Test.YtedolmjealgeoaaDoorWz
import Derived.Test.YtedolmjealgeoaaDoorWs
import Derived.Test.YtedolmjealgeoaaDoorPBasex1
import Derived.Deep.DeepCutAuto
import Derived.Deep.CutBlock
set_option linter.unusedVariables false
namespace Go.Proofs.YtedolmjealgeoaaDoor.Wh
open Go.RowKit Go.Maps Go.Proofs.YtedolmjealgeoaaDoor.PBase Go.Proofs.YtedolmjealgeoaaDoor.Cat Go.Proofs.YtedolmjealgeoaaDoor.Rg Go.Proofs.YtedolmjealgeoaaDoor.Tk Go.Proofs.YtedolmjealgeoaaDoorW.PrintWords Go.Proofs.YtedolmjealgeoaaDoorW.PrintLast Go.Proofs.YtedolmjealgeoaaDoorW.PrintMore
attribute [local go_sem high] eqA31
theorem fl_ord : ∀ n : Fin 64, (FloatKind.f64.format.order (fl ((n.val : Nat) : Int)) (fl ((n.val : Nat) : Int)) == some .eq) = true := by decide +kernel
/-- A place is a number that equals itself. -/
theorem place_self (now : Int) (o : Option Int) : ∃ re im : Nat, placeO now o = .complex .f64 re im ∧ (FloatKind.f64.format.order re re == some .eq) = true ∧ (FloatKind.f64.format.order im im == some .eq) = true := by
  cases o with
  | none => exact ⟨0, 0, rfl, by decide +kernel, by decide +kernel⟩
  | some a =>
    show ∃ re im : Nat, placeV now a = _ ∧ _
    unfold placeV
    by_cases h : lv a now < 6
    · rw [if_pos h]
      have hd := dg_range a (lv a now)
      refine ⟨_, _, rfl, ?_, ?_⟩
      · have h5 := fl_ord ⟨(dg a (lv a now)).toNat, by omega⟩
        rw [show (((⟨(dg a (lv a now)).toNat, by omega⟩ : Fin 64).val : Nat) : Int) = dg a (lv a now) by show (((dg a (lv a now)).toNat : Nat) : Int) = _; omega] at h5
        exact h5
      · exact fl_ord ⟨lv a now, by omega⟩
    · rw [if_neg h]
      exact ⟨_, _, rfl, by decide +kernel, by decide +kernel⟩
section
variable {N : Nat} {X : Nat → Prop} {w w' : World} {R B : Nat} {v : Value} {now : Int} {L : List S31}
theorem head_sorted (h : psort L = L) : (psort L).head? = L.head? := by rw [h]
set_option maxHeartbeats 8000000 in
set_option maxRecDepth 100000 in
theorem same6_calls (hJ : WJ N X w B now L) (hM : RW N w R v now L) (hs : psort L = L) (hl : L.length ≤ 90000) : Calls Tryd.prog 50 #[ptr B, ptr R] w fun e w' => e = .returned (.bool true) ∧ Below w.heap.size w w' := by
  have HJ := Aside0.mk hJ
  have HM := Aside0.mk hM
  have HL := Aside0.mk hl
  obtain ⟨A, c, e1, hc, hC⟩ := Kd.R_reads hM.r
  subst e1
  have HC := Aside0.mk hC
  have HTT := Aside0.mk hJ.tt
  have HH := Aside0.mk (head_sorted hs)
  have kc : Aside0 (∀ w', Below w.heap.size w w' → w'.cell? ⟨R, 0, none⟩ = some (.slice A L.length c) ∧ w'.cell? ⟨R, 1, none⟩ = some (.int .u64 now)) := ⟨fun w' hb => ⟨(blk_cell (HM.out.step hb).g 0).trans rfl, (blk_cell (HM.out.step hb).g 1).trans rfl⟩⟩
  have k34 := Aside0.mk (fun w' (hb : Below w.heap.size w w') => now_J (HJ.out.step hb))
  have k37 := Aside0.mk (fun w' (hb : Below w.heap.size w w') => Wh.len_J (HJ.out.step hb))
  have k40 : Aside0 (∀ w', Below w.heap.size w w' → Calls Tryd.prog 40 #[ptr B] w' fun e w'' => e = .returned (.agg #[.int .i64 (loadF now L 0), .int .i64 (loadF now L 1), .int .i64 (loadF now L 2), .int .i64 (loadF now L 3), .int .i64 (loadF now L 4), .int .i64 (loadF now L 5), .int .i64 (loadF now L 6)]) ∧ Below w'.heap.size w' w'') := ⟨fun w' hb => load_J (HJ.out.step hb)⟩
  have k79 : Aside0 (∀ w', Below w.heap.size w w' → Calls Tryd.prog 79 #[ptr R] w' fun e w'' => e = .returned (.agg #[.int .i64 (loadF now L 0), .int .i64 (loadF now L 1), .int .i64 (loadF now L 2), .int .i64 (loadF now L 3), .int .i64 (loadF now L 4), .int .i64 (loadF now L 5), .int .i64 (loadF now L 6)]) ∧ Below w'.heap.size w' w'') := ⟨fun w' hb => wload_calls (HM.out.step hb) HTT.out.u HTT.out.un (by have := HL.out; omega)⟩
  have h74 := eq74 (loadF now L 0) (loadF now L 1) (loadF now L 2) (loadF now L 3) (loadF now L 4) (loadF now L 5) (loadF now L 6)
  have g74 := guard74
  clear hJ hM hl hc hC hs
  go_enter Tryd.func50, Tryd.ntmps50
  go_upto_region 1 with (fail)
  have hb0 := Aside0.mk (below_drew1 (Below.refl w.heap.size w))
  go_region_held3 (fun w' => w'.cell? ⟨R, 0, none⟩ = some (.slice A L.length c) ∧ w'.cell? ⟨R, 1, none⟩ = some (.int .u64 now)) (first | exact kc.out _ hb0.out | exact kc.out _ hBc.out) (first
    | (go_at_call 34; refine (k34.out _ hb0.out).mono ?_; rintro e w1 ⟨rfl, hb1⟩; have hBc := Aside0.mk (below_step hb0.out hb1))
    | (go_at_call 37; refine (k37.out _ hBc.out).mono ?_; rintro e w2 ⟨rfl, hb2⟩; have hBc := Aside0.mk (below_step hBc.out hb2))
    | (go_at_call 40; refine (k40.out _ hBc.out).mono ?_; rintro e w3 ⟨rfl, hb3⟩; have hBc := Aside0.mk (below_step hBc.out hb3))
    | (go_at_call 79; refine (k79.out _ hBc.out).mono ?_; rintro e w4 ⟨rfl, hb4⟩; have hBc := Aside0.mk (below_step hBc.out hb4)))
  have hW := Aside0.mk hBc.out
  clear k40 k79 h74 g74 hb0
  clear hBc
  have k38 := Wh.first_J (HJ.out.step hW.out) HL.out L.head? HH.out
  have hw0 : (L.head?.isSome = false ∧ L = [] ∧ L.head?.getD ⟨0, 0⟩ = (⟨0, 0⟩ : S31)) ∨ (L.head?.isSome = true ∧ ∃ L', L = L.head?.getD ⟨0, 0⟩ :: L') := by
    cases L with
    | nil => exact .inl ⟨rfl, rfl, rfl⟩
    | cons d L => exact .inr ⟨rfl, L, rfl⟩
  generalize L.head?.isSome = b at k38 hw0
  generalize L.head?.getD ⟨0, 0⟩ = y at k38 hw0
  have hway := Aside0.mk hw0
  replace k38 := Aside0.mk k38
  clear hw0
  go_upto_region 4 with (go_at_call 38; refine k38.out.mono ?_; rintro e w5 ⟨rfl, hb5⟩)
  have hX5 := blk_new w5 (.cells #[.int .i64 y.f0, .int .u64 y.f1] 31)
  have hb6 := Aside0.mk (below_step hW.out (below_step hb5 (below_alloc (Below.refl w5.heap.size w5) (.cells #[.int .i64 y.f0, .int .u64 y.f1] 31))))
  clear hb5 k38
  generalize w5.alloc (.cells #[.int .i64 y.f0, .int .u64 y.f1] 31) = w6 at hX5 hb6 ⊢
  generalize w5.heap.size = g at hX5 ⊢
  have HX := Aside0.mk hX5
  clear hX5
  go_cut [72] (fun v72 wc => v72 = .bool false ∧ Aside0 (Below w.heap.size w wc))
  case first =>
    as_aux_lemma =>
    obtain ⟨c0, c1⟩ := kc.out w6 hb6.out
    have x0 : w6.cell? ⟨g, 0, none⟩ = some (.int .i64 y.f0) := (blk_cell HX.out 0).trans rfl
    have x1 : w6.cell? ⟨g, 1, none⟩ = some (.int .u64 y.f1) := (blk_cell HX.out 1).trans rfl
    rcases hway.out with ⟨rfl, rfl, rfl⟩ | ⟨rfl, L', hLe⟩
    · replace c0 : w6.cell? ⟨R, 0, none⟩ = some (.slice A 0 c) := c0
      replace x0 : w6.cell? ⟨g, 0, none⟩ = some (.int .i64 0) := x0
      replace x1 : w6.cell? ⟨g, 1, none⟩ = some (.int .u64 0) := x1
      clear k34 k37 kc
      go_quiet (fail)
      go_wp2
      go_meet
      exact ⟨rfl, ⟨by repeat (first | exact hb6.out | apply pw_below_drewN | apply below_drew1)⟩⟩
    · clear k34 k37 kc
      obtain ⟨ad, e3, y0, y1⟩ := at_T31 (Kd.C_below HC.out hb6.out) 0 (by omega) (by rw [hLe]; simp)
      cases e3
      rw [show rd_T31 L 0 = y by rw [hLe]; rfl] at y0 y1
      replace y0 : w6.cell? ad = some (.int .i64 y.f0) := y0
      replace y1 : w6.cell? ⟨ad.block, ad.off + 1, none⟩ = some (.int .u64 y.f1) := y1
      have hl0 : (0 : Int) < (L.length : Int) := by rw [hLe]; simp
      have hl1 : 0 < L.length := by rw [hLe]; simp
      obtain ⟨n, hn⟩ : ∃ n, L.length = n := ⟨_, rfl⟩
      rw [hn] at hl0 hl1 c0
      clear hn hLe
      have hd1 : decide ((0 : Int) < (n : Int)) = true := decide_eq_true hl0
      have hd2 : decide (0 < n) = true := decide_eq_true hl1
      go_quiet (fail)
      go_wp2
      go_meet
      exact ⟨rfl, ⟨by repeat (first | exact hb6.out | apply pw_below_drewN | apply below_drew1)⟩⟩
  case rest =>
    as_aux_lemma =>
    obtain ⟨rfl, hbc⟩ := hcut
    clear HX hb6 hW k34 k37
    go_wp2
    go_loopg [7] L.length (fun gk v7 wr => ∃ i : Nat, v7 = .int .i64 i ∧ i ≤ L.length ∧ L.length - i ≤ gk ∧ Aside0 (Below w.heap.size w wr))
    case atStart => exact ⟨0, rfl, Nat.zero_le _, by omega, hbc⟩
    case round =>
      clear hbc
      obtain ⟨i, rfl, hi, hgk, hB⟩ := hrel
      have hL9 := HL.out
      obtain ⟨c0, c1⟩ := kc.out wr hB.out
      by_cases hlt : i < L.length
      · have hi0 : (0 : Int) ≤ (i : Int) := by omega
        have hi1 : (i : Int) < (L.length : Int) := by omega
        obtain ⟨ad, e3, y0, y1⟩ := at_T31 HC.out (i : Int) hi0 hi1
        cases e3
        rw [Int.toNat_natCast, rd31 L i hlt] at y0 y1
        have hdm : L[i] ∈ L := List.getElem_mem hlt
        obtain ⟨d, hd⟩ : ∃ d, L[i] = d := ⟨_, rfl⟩
        rw [hd] at y0 y1 hdm
        have hto := tof_mem HTT.out.nd hdm
        have hwf := HTT.out.wf d hdm
        have kd : Aside0 (∀ w', Below w.heap.size w w' → w'.cell? (ad.add (i * 2)) = some (.int .i64 d.f0) ∧ w'.cell? ⟨(ad.add (i * 2)).block, (ad.add (i * 2)).off + 1, none⟩ = some (.int .u64 d.f1)) := ⟨fun w' hb => ⟨(hb.cell (World.block_lt_of_cell? w _ y0)).trans y0, (hb.cell (World.block_lt_of_cell? w _ y1)).trans y1⟩⟩
        obtain ⟨re, im, hpl, ho1, ho2⟩ := place_self now (some d.f1)
        have k46 := Aside0.mk (place_J (HJ.out.step hB.out) d.f0 hwf _ hto)
        have k47 := Aside0.mk (fun w' (hb : Below w.heap.size w w') => wplace_calls (HM.out.step hb) HTT.out.nd HTT.out.u HTT.out.un d.f0 (show L.length ≤ 1000000 by have := HL.out; omega) _ hto)
        have k48 := Aside0.mk (fun w' (hb : Below w.heap.size w w') => at_J (HJ.out.step hb) d.f0 hwf _ hto)
        rw [hpl] at k46 k47
        obtain ⟨q0, q1⟩ := kd.out wr hB.out
        clear y0 y1 hdm hd hto hwf hpl
        go_upto_region 10 with (go_at_call 46; refine k46.out.mono ?_; rintro e w7 ⟨rfl, hb7⟩)
        have hB7 := Aside0.mk (below_step hB.out hb7)
        clear q0 q1 c0 c1 hb7 k46
        obtain ⟨q0, q1⟩ := kd.out w7 hB7.out
        obtain ⟨c0, c1⟩ := kc.out w7 hB7.out
        go_upto_region 11 with (go_at_call 47; refine (k47.out _ hB7.out).mono ?_; rintro e w8 ⟨rfl, hb8⟩)
        have hB8 := Aside0.mk (below_step hB7.out hb8)
        clear q0 q1 c0 c1 hb8 k47
        obtain ⟨q0, q1⟩ := kd.out w8 hB8.out
        obtain ⟨c0, c1⟩ := kc.out w8 hB8.out
        go_upto_region 12 with (go_at_call 48; refine (k48.out _ hB8.out).mono ?_; rintro e w9 ⟨rfl, hb9⟩)
        have hB9 := Aside0.mk (below_step hB8.out hb9)
        clear q0 q1 c0 c1 hb9 k48
        obtain ⟨q0, q1⟩ := kd.out w9 hB9.out
        obtain ⟨c0, c1⟩ := kc.out w9 hB9.out
        go_wp2
        go_roundg (L.length - (i + 1))
        case measure => omega
        case rel => exact ⟨i + 1, by go_num, by omega, Nat.le_refl _, hB9⟩
      · have hi1 : ¬ (i : Int) < (L.length : Int) := by omega
        go_wp2
        go_ret
        exact ⟨rfl, hB.out⟩
end
end Go.Proofs.YtedolmjealgeoaaDoor.Wh
