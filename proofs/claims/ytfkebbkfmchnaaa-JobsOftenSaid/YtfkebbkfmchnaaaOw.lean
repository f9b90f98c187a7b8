/- JobsOften's walk. Conditions: the row read. -/
import Derived.Test.YtfkebbkfmchnaaaOp
import Derived.Test.YtfkebbkfmchnaaaRw
set_option linter.unusedVariables false
namespace Go.Proofs.Ytfkebbkfmchnaaa.Bk
open Go.RowKit Go.Maps Go.Proofs.Ytfkebbkfmchnaaa.PBase Go.Proofs.Ytfkebbkfmchnaaa.Cat Go.Proofs.Ytfkebbkfmchnaaa.Heap Go.Proofs.Ytfkebbkfmchnaaa.Ln Go.Proofs.Ytfkebbkfmchnaaa.Lst Go.Proofs.Ytfkebbkfmchnaaa.Mq Go.Proofs.YtfkebbkfmchnaaaW.PrintWords Go.Proofs.YtfkebbkfmchnaaaW.PrintLast Go.Proofs.YtfkebbkfmchnaaaW.PrintMore
/-- The law's book and maps in memory. -/
structure LO (W : World) (G mu mh : Nat) (w : World) (b : Book) (hd us : Int → Option Int) (cu ch : Nat) : Prop where
  bi : BI W.heap.size (fun k => k = mu ∨ k = mh) w G b
  u : MI eInt w mu us cu
  h : MI eInt w mh hd ch
  ne : mu ≠ mh
  fr : Fr (fun k => W.heap.size ≤ k) W w
  lu : W.heap.size ≤ mu
  lh : W.heap.size ≤ mh
section
variable {W w w' : World} {G mu mh : Nat} {b b' : Book} {hd us : Int → Option Int} {cu ch : Nat}
theorem LO.step (h : LO W G mu mh w b hd us cu ch) (hb : Below w.heap.size w w') : LO W G mu mh w' b hd us cu ch :=
  have hf : Fr (fun _ => False) w w' := Fr.of_below hb
  ⟨h.bi.step hb, h.u.fr hf (fun e => e), h.h.fr hf (fun e => e), h.ne, h.fr.trans (Fr.of_below hb), h.lu, h.lh⟩
theorem LO.call (h : LO W G mu mh w b hd us cu ch) (hk : BI W.heap.size (fun k => k = mu ∨ k = mh) w' G b' ∧ Fr (KX W.heap.size (fun k => k = mu ∨ k = mh)) w w') : LO W G mu mh w' b' hd us cu ch :=
  ⟨hk.1, h.u.fr hk.2 (fun e => e.2 (.inl rfl)), h.h.fr hk.2 (fun e => e.2 (.inr rfl)), h.ne, h.fr.trans (hk.2.weak (fun k e => e.1)), h.lu, h.lh⟩
theorem LO.setU {us2 : Int → Option Int} {cu2 : Nat} (h : LO W G mu mh w b hd us cu ch) (hm : MI eInt w' mu us2 cu2) (ht : Fr (fun k => k = mu) w w') : LO W G mu mh w' b hd us2 cu2 ch :=
  ⟨h.bi.keep (ht.weak (fun k e => .inl e)), hm, h.h.fr ht (fun e => h.ne e.symm), h.ne, h.fr.trans (ht.weak (fun k e => by rw [e]; exact h.lu)), h.lu, h.lh⟩
theorem LO.setH {hd2 : Int → Option Int} {ch2 : Nat} (h : LO W G mu mh w b hd us cu ch) (hm : MI eInt w' mh hd2 ch2) (ht : Fr (fun k => k = mh) w w') : LO W G mu mh w' b hd2 us cu ch2 :=
  ⟨h.bi.keep (ht.weak (fun k e => .inr e)), h.u.fr ht (fun e => h.ne e), hm, h.ne, h.fr.trans (ht.weak (fun k e => by rw [e]; exact h.lh)), h.lu, h.lh⟩
theorem LO.book (h : LO W G mu mh w b hd us cu ch) {b2 : Book} (e : b = b2) : LO W G mu mh w b2 hd us cu ch := e ▸ h
/-- holds[x] = y. -/
theorem LO.holds (h : LO W G mu mh w b hd us cu ch) (x y : Int) (hx : (Lit.int .i64 x).wf = true) (hc : ch ≤ 100) : ∃ w' ch', (Instr.mapUpdate 49 (.map (some mh)) (.int .i64 x) (.int .i64 y)).run Try.prog w = .ok () w' ∧ LO W G mu mh w' b (upd hd x (some y)) us cu ch' ∧ ch' ≤ ch + 1 ∧ Fr (fun k => k = mh) w w' := by
  obtain ⟨w', hr, hm, ht⟩ := h.h.store ekInt (by unfold maxLen; omega) y hx
  refine ⟨w', _, hr, h.setH hm (Fr.of_turned ht), ?_, Fr.of_turned ht⟩
  split <;> omega
/-- used[x] = y. -/
theorem LO.used (h : LO W G mu mh w b hd us cu ch) (x y : Int) (hx : (Lit.int .i64 x).wf = true) (hc : cu ≤ 100) : ∃ w' cu', (Instr.mapUpdate 49 (.map (some mu)) (.int .i64 x) (.int .i64 y)).run Try.prog w = .ok () w' ∧ LO W G mu mh w' b hd (upd us x (some y)) cu' ch ∧ cu' ≤ cu + 1 ∧ Fr (fun k => k = mu) w w' := by
  obtain ⟨w', hr, hm, ht⟩ := h.u.store ekInt (by unfold maxLen; omega) y hx
  refine ⟨w', _, hr, h.setU hm (Fr.of_turned ht), ?_, Fr.of_turned ht⟩
  split <;> omega
theorem LO.readH (h : LO W G mu mh w b hd us cu ch) (x r : Int) (hx : (Lit.int .i64 x).wf = true) (hr : (hd x).getD 0 = r) : (Instr.lookup 49 (.map (some mh)) (.int .i64 x) false).run Try.prog w = .ok (.int .i64 r) w := by
  rw [← hr]
  exact h.h.look1 ekInt hx 0
theorem LO.readU (h : LO W G mu mh w b hd us cu ch) (x r : Int) (hx : (Lit.int .i64 x).wf = true) (hr : (us x).getD 0 = r) : (Instr.lookup 49 (.map (some mu)) (.int .i64 x) false).run Try.prog w = .ok (.int .i64 r) w := by
  rw [← hr]
  exact h.u.look1 ekInt hx 0
end
/-- The law's invariant, plain. -/
structure PL (b : Book) (n : Int) (i nx : Nat) (hd us : Int → Option Int) (cu ch : Nat) : Prop where
  oj : OJ b n nx hd us
  z : ∀ x : Int, (nx : Int) ≤ x → (us x).getD 0 = 0
  ct : b.ct ≤ i
  nx : nx ≤ i
  cu : cu ≤ i
  ch : ch ≤ i
set_option maxHeartbeats 16000000 in
set_option maxRecDepth 100000 in
theorem often_walk (W : World) (a0 n : Int) (A : Option Addr) (c : Nat) (l : List S51) (hn : (wrap64 a0).tmod 10 = n) (h1 : 0 ≤ n ∧ n ≤ 9) (hC : Kd.C k51 W A l.length l) (hc : l.length ≤ c) :
    Calls Try.prog 5 #[.int .u8 a0, .slice A l.length c] W fun e w' => e = .returned (.bool true) ∧ Below W.heap.size W w' := by
  have HC := Aside0.mk hC
  clear hC
  have hmm := @run_makeMap Try.prog
  go_enter Try.func5, Try.ntmps5
  go_upto_block 0 with (go_at_call 8; refine (bnew_good 3 8 n W.heap.size _ (Nat.le_refl _) (by decide) (by decide) (by omega)).mono ?_; rintro e w1 ⟨G, rfl, hb1, h1'⟩)
  have hs2 : (w1.alloc (.map #[] 0)).heap.size = w1.heap.size + 1 := by simp
  have hS : Aside0 (LO W G w1.heap.size (w1.heap.size + 1) ((w1.alloc (.map #[] 0)).alloc (.map #[] 0)) (b0 3 8 n) (fun _ => none) (fun _ => none) 0 0) := by
    have hb2 : Below w1.heap.size w1 (w1.alloc (.map #[] 0)) := below_alloc (Below.refl _ _) _
    have hb3 : Below (w1.alloc (.map #[] 0)).heap.size (w1.alloc (.map #[] 0)) ((w1.alloc (.map #[] 0)).alloc (.map #[] 0)) := below_alloc (Below.refl _ _) _
    have hs3 : ((w1.alloc (.map #[] 0)).alloc (.map #[] 0)).heap.size = w1.heap.size + 1 + 1 := by simp
    have hm3 := MI.made eInt (w1.alloc (.map #[] 0))
    rw [hs2] at hm3
    have hWs := hb1.size
    exact ⟨⟨(h1'.out.more (Y := fun k => k = w1.heap.size ∨ k = w1.heap.size + 1) (below_step hb2 hb3) (fun k e => by rw [hs3]; omega)).sub (fun k e => .inr e), (MI.made eInt w1).fr (F := fun _ => False) (Fr.of_below hb3) (fun e => e), hm3, by omega, Fr.of_below (below_step hb1 (below_step hb2 hb3)), hWs, by omega⟩⟩
  generalize (w1.alloc (.map #[] 0)).alloc (.map #[] 0) = w3 at hS ⊢
  generalize w1.heap.size + 1 = mh at hS ⊢
  generalize w1.heap.size = mu at hS ⊢
  have hP0 : Aside0 (PL (b0 3 8 n) n 0 0 (fun _ => none) (fun _ => none) 0 0) := ⟨⟨OJ.start n, fun _ _ => rfl, Int.le_refl _, Nat.le_refl _, Nat.le_refl _, Nat.le_refl _⟩⟩
  clear hs2 hb1 h1' hmm
  go_wp2_with (fail)
  go_loopg [7, 10] 80 (fun gg v7 v10 wr => ∃ (i nx : Nat) (b : Book) (hd us : Int → Option Int) (cu ch : Nat), v7 = .int .i64 nx ∧ v10 = .int .i64 i ∧ i ≤ 80 ∧ 80 - i ≤ gg ∧ Aside0 (PL b n i nx hd us cu ch) ∧ Aside0 (LO W G mu mh wr b hd us cu ch))
  case atStart => exact ⟨0, 0, _, _, _, 0, 0, rfl, rfl, by omega, by omega, hP0, hS⟩
  case round =>
    obtain ⟨i, nx, b, hd, us, cu, ch, rfl, rfl, hi, hgg, HP, HLO⟩ := hrel
    clear hS hP0
    by_cases hil : i < l.length ∧ i < 80
    · have hil1 : (i : Int) < (l.length : Int) := by omega
      have hil2 : (i : Int) < 80 := by omega
      have hil0 : (0 : Int) ≤ (i : Int) := by omega
      obtain ⟨ad, e, x0, x1, x2, x3⟩ := at_T51 (show Kd.C k51 wr A l.length l from Kd.C_below HC.out (HLO.out.fr.below (Nat.le_refl _) (fun _ h => h))) i hil1
      subst e
      generalize rd51 l i = act at x0 x1 x2 x3
      obtain ⟨d0, d1, d2, d3⟩ := act
      have hnx := HP.out.nx
      obtain ⟨job, hjob⟩ : ∃ z, md d1 ((nx : Int) + 1) = z := ⟨_, rfl⟩
      have hjr := md_in d1 (show 1 ≤ (nx : Int) + 1 by omega)
      rw [hjob] at hjr
      obtain ⟨d, hd0⟩ : ∃ z, md d0 8 = z := ⟨_, rfl⟩
      have hdr := md_in d0 (show (1 : Int) ≤ 8 by decide)
      rw [hd0] at hdr
      have hnw : IntKind.i64.wrap ((nx : Int) + 1) = (nx : Int) + 1 := by rw [i64_w]; unfold wrap64; omega
      have hjw : (Lit.int .i64 job).wf = true := wf_small (by omega)
      have hmd := Aside0.mk (And.intro hjob hd0)
      have hdr := Aside0.mk hdr
      clear hjob hd0
      go_upto_region 13 with (go_at_call 19; refine (mod_calls d1 ((nx : Int) + 1) job _ ⟨by omega, by omega⟩ hmd.out.1).mono ?_; rintro e w2 ⟨rfl, hb2⟩)
      have x20 := Aside0.mk hb2
      have ha2 : Aside0 (w2.heap[wr.heap.size]? = some (.cells #[.int .i64 d0, .int .i64 d1, .int .i64 d2, .int .u64 d3] 51 (0, 0))) := ⟨blk_below (blk_new _ _) hb2⟩
      have HLO2 := Aside0.mk (HLO.out.step (below_step (below_alloc (Below.refl _ _) _) hb2))
      generalize wr.heap.size = ka at ha2 ⊢
      obtain ⟨num0, hnum0⟩ : ∃ z, num b job = z := ⟨_, rfl⟩
      have hrd := HLO2.out.readH job num0 hjw (by rw [HP.out.oj.hd, hnum0])
      have HNM := Aside0.mk hnum0
      have y0 := (blk_cell ha2.out 0).trans rfl
      clear hnum0 hb2 x20 x0 x1 x2 x3 HLO
      go_upto_block 2 with (go_at_call 19; refine (mod_calls d0 8 d _ (by decide) hmd.out.2).mono ?_; rintro e w3 ⟨rfl, hb3⟩)
      have HLO3 := Aside0.mk (HLO2.out.step hb3)
      have ha3 := blk_below ha2.out hb3
      have y2 := (blk_cell ha3 2).trans rfl
      have y3 := (blk_cell ha3 3).trans rfl
      clear hb3 ha3 HLO2 ha2 y0 hrd
      have hdc : d = 0 ∨ d = 1 ∨ d = 2 ∨ d = 3 ∨ d = 4 ∨ d = 5 ∨ d = 6 ∨ d = 7 := by have := hdr.out; omega
      have hnxw : (Lit.int .i64 (nx : Int)).wf = true := wf_small (by omega)
      rcases hdc with rfl | rfl | rfl | rfl | rfl | rfl | rfl | rfl
      · as_aux_lemma =>
        have hclr := md_in d2 (show (1 : Int) ≤ 8 by decide)
        obtain ⟨cl, hcl'⟩ : ∃ z, md d2 8 = z := ⟨_, rfl⟩
        rw [hcl'] at hclr
        have hcl := Aside0.mk hcl'
        clear hcl'

        rcases HP.out.oj.addE (cl := cl) hclr with hE | hE
        · have hP7 : Aside0 (PL (addB b nx cl) n (i + 1) (nx + 1) hd us cu ch) := ⟨⟨by have := HP.out.oj.add HLO3.out.bi.inv (cl := cl) (by omega) HP.out.z; exact_mod_cast this, fun x hx => HP.out.z x (by omega), by have := HP.out.ct; show b.ct ≤ _; omega, by omega, by have := HP.out.cu; omega, by have := HP.out.ch; omega⟩⟩
          have HE := Aside0.mk hE
          clear hE hclr
          go_wp2_with (first
            | (go_at_call 19; refine (mod_calls d2 8 cl _ (by decide) hcl.out).mono ?_; rintro e w5 ⟨rfl, hb5⟩; have hLO5 := Aside0.mk (HLO3.out.step hb5); have had := add_B hLO5.out.bi nx cl hnxw 0 HE.out _ (addT_ok HE.out); clear hb5)
            | (go_at_call 9; refine had.mono ?_; clear had; rintro e w6 ⟨rfl, hg6⟩))
          go_roundg (80 - (i + 1))
          case measure => omega
          case rel => exact ⟨i + 1, nx + 1, _, hd, us, cu, ch, by go_num, by go_num, by omega, Nat.le_refl _, hP7, ⟨hLO5.out.call hg6.out⟩⟩
        · have hP7 : Aside0 (PL b n (i + 1) nx hd us cu ch) := ⟨⟨HP.out.oj, HP.out.z, by have := HP.out.ct; omega, by have := HP.out.nx; omega, by have := HP.out.cu; omega, by have := HP.out.ch; omega⟩⟩
          have HE := Aside0.mk hE
          clear hE hclr
          go_wp2_with (first
            | (go_at_call 19; refine (mod_calls d2 8 cl _ (by decide) hcl.out).mono ?_; rintro e w5 ⟨rfl, hb5⟩; have hLO5 := Aside0.mk (HLO3.out.step hb5); have had := add_B hLO5.out.bi nx cl hnxw 10 HE.out b (addT_no (by rw [HE.out]; decide)); clear hb5)
            | (go_at_call 9; refine had.mono ?_; clear had; rintro e w6 ⟨rfl, hg6⟩))
          go_roundg (80 - (i + 1))
          case measure => omega
          case rel => exact ⟨i + 1, nx, _, hd, us, cu, ch, rfl, by go_num, by omega, Nat.le_refl _, hP7, ⟨hLO5.out.call hg6.out⟩⟩
      · as_aux_lemma =>
        have hclr := md_in d2 (show (1 : Int) ≤ 8 by decide)
        obtain ⟨cl, hcl'⟩ : ∃ z, md d2 8 = z := ⟨_, rfl⟩
        rw [hcl'] at hclr
        have hcl := Aside0.mk hcl'
        clear hcl'

        rcases HP.out.oj.addE (cl := cl) hclr with hE | hE
        · have hP7 : Aside0 (PL (addB b nx cl) n (i + 1) (nx + 1) hd us cu ch) := ⟨⟨by have := HP.out.oj.add HLO3.out.bi.inv (cl := cl) (by omega) HP.out.z; exact_mod_cast this, fun x hx => HP.out.z x (by omega), by have := HP.out.ct; show b.ct ≤ _; omega, by omega, by have := HP.out.cu; omega, by have := HP.out.ch; omega⟩⟩
          have HE := Aside0.mk hE
          clear hE hclr
          go_wp2_with (first
            | (go_at_call 19; refine (mod_calls d2 8 cl _ (by decide) hcl.out).mono ?_; rintro e w5 ⟨rfl, hb5⟩; have hLO5 := Aside0.mk (HLO3.out.step hb5); have had := add_B hLO5.out.bi nx cl hnxw 0 HE.out _ (addT_ok HE.out); clear hb5)
            | (go_at_call 9; refine had.mono ?_; clear had; rintro e w6 ⟨rfl, hg6⟩))
          go_roundg (80 - (i + 1))
          case measure => omega
          case rel => exact ⟨i + 1, nx + 1, _, hd, us, cu, ch, by go_num, by go_num, by omega, Nat.le_refl _, hP7, ⟨hLO5.out.call hg6.out⟩⟩
        · have hP7 : Aside0 (PL b n (i + 1) nx hd us cu ch) := ⟨⟨HP.out.oj, HP.out.z, by have := HP.out.ct; omega, by have := HP.out.nx; omega, by have := HP.out.cu; omega, by have := HP.out.ch; omega⟩⟩
          have HE := Aside0.mk hE
          clear hE hclr
          go_wp2_with (first
            | (go_at_call 19; refine (mod_calls d2 8 cl _ (by decide) hcl.out).mono ?_; rintro e w5 ⟨rfl, hb5⟩; have hLO5 := Aside0.mk (HLO3.out.step hb5); have had := add_B hLO5.out.bi nx cl hnxw 10 HE.out b (addT_no (by rw [HE.out]; decide)); clear hb5)
            | (go_at_call 9; refine had.mono ?_; clear had; rintro e w6 ⟨rfl, hg6⟩))
          go_roundg (80 - (i + 1))
          case measure => omega
          case rel => exact ⟨i + 1, nx, _, hd, us, cu, ch, rfl, by go_num, by omega, Nat.le_refl _, hP7, ⟨hLO5.out.call hg6.out⟩⟩
      · as_aux_lemma =>
        by_cases hL : b.L = []
        · have hft := fetch_no HLO3.out.bi d3 hL
          have hP7 : Aside0 (PL b n (i + 1) nx hd us cu ch) := ⟨⟨HP.out.oj, HP.out.z, by have := HP.out.ct; omega, by have := HP.out.nx; omega, by have := HP.out.cu; omega, by have := HP.out.ch; omega⟩⟩
          clear hL
          go_wp2_with (go_at_call 12; refine hft.mono ?_; clear hft; rintro e w6 ⟨rfl, hg6⟩)
          go_roundg (80 - (i + 1))
          case measure => omega
          case rel => exact ⟨i + 1, nx, _, hd, us, cu, ch, rfl, by go_num, by omega, Nat.le_refl _, hP7, ⟨(HLO3.out.call hg6.out).step (below_alloc (Below.refl _ _) _)⟩⟩
        · have h0 : 0 < b.L.length := List.length_pos_iff.2 hL
          have hctb := HP.out.ct
          obtain ⟨x, hx⟩ : ∃ x, (fetchJ b).f0 = x := ⟨_, rfl⟩
          obtain ⟨q, hq⟩ : ∃ q : Int, b.ct + 1 = q := ⟨_, rfl⟩
          obtain ⟨us0, hus0⟩ : ∃ z, usedOf b x = z := ⟨_, rfl⟩
          obtain ⟨t, ht⟩ : ∃ t : Int, us0 + 1 = t := ⟨_, rfl⟩
          have hft := fetch_yes HLO3.out.bi d3 h0 (by omega) us0 (by rw [hx]; exact hus0) q hq
          rw [hx, ht] at hft
          obtain ⟨f1, f2, f3, f4, f5, f6, f7⟩ := HP.out.oj.fetch HLO3.out.bi.inv h0 d3 x q t hx hq (by rw [hus0]; exact ht)
          obtain ⟨u0, hu0⟩ : ∃ z, (us x).getD 0 = z := ⟨_, rfl⟩
          rw [hu0] at f3
          have hxw : (Lit.int .i64 x).wf = true := wf_small (by omega)
          have hwu : IntKind.i64.wrap (u0 + 1) = t := by rw [i64_w, f3]; unfold wrap64; omega
          have hwn : IntKind.i64.wrap (n + 1) = n + 1 := by rw [i64_w]; unfold wrap64; omega
          have F7 := Aside0.mk f7
          have F2 := Aside0.mk f2
          have HU0 := Aside0.mk hu0
          have k1 : ¬ x < 0 := by omega
          have k2 : ¬ (nx : Int) ≤ x := by omega
          have k3 : ¬ n + 1 < t := by omega
          have k4 : ¬ q < 1 := by omega
          have hql : Aside0 (q ≤ (i + 1 : Nat)) := ⟨by omega⟩
          have hxl := Aside0.mk f1
          clear hL h0 hx hq hus0 ht f1 f2 f3 f4 f5 f6 f7 hu0 hctb
          go_upto_region 31 with (go_at_call 12; refine hft.mono ?_; clear hft; rintro e w6 ⟨rfl, hg6⟩)
          generalize hw7 : w6.alloc (.cells #[.int .i64 q, .int .i64 x, .int .i64 0, .int .i64 0, .int .i64 t, .int .u64 d3] 33) = w7
          have hb7 : Below w6.heap.size w6 w7 := by rw [← hw7]; exact below_alloc (Below.refl _ _) _
          have hx7 : w7.heap[w6.heap.size]? = some (.cells #[.int .i64 q, .int .i64 x, .int .i64 0, .int .i64 0, .int .i64 t, .int .u64 d3] 33 (0, 0)) := by rw [← hw7]; exact blk_new _ _
          have hLO6 := HLO3.out.call hg6.out
          have hml : mu < w6.heap.size := hLO6.u.lt
          have hhl : mh < w6.heap.size := hLO6.h.lt
          have hLO7 := hLO6.step hb7
          have hr1 := hLO7.readU x u0 hxw HU0.out
          obtain ⟨w8, cu', hrun8, hLO8, hcu8, hF8⟩ := hLO7.used x t hxw (by have := HP.out.cu; omega)
          have hr2 := hLO8.readH x 0 hxw F2.out
          have hr3 := hLO8.readU x t hxw (by rw [upd_same]; rfl)
          obtain ⟨w9, ch', hrun9, hLO9, hch9, _⟩ := hLO8.holds x q hxw (by have := HP.out.ch; omega)
          have hx8 := (hF8.blk w6.heap.size (blk_lt hx7) (by show ¬ w6.heap.size = mu; omega)).trans hx7
          have hLO9 := Aside0.mk hLO9
          have hP9 : Aside0 (PL (fetchB b d3) n (i + 1) nx (upd hd x (some q)) (upd us x (some t)) cu' ch') := ⟨⟨F7.out, fun z hz => by
            unfold upd
            rw [if_neg (by have := hxl.out; omega)]
            exact HP.out.z z hz, by have := HP.out.ct; show b.ct + 1 ≤ _; omega, by have := HP.out.nx; omega, by have := HP.out.cu; omega, by have := HP.out.ch; omega⟩⟩
          generalize w6.heap.size = kx at hx7 hx8 ⊢
          have z0 := (blk_cell hx7 0).trans rfl
          have z1 := (blk_cell hx7 1).trans rfl
          have z4 := (blk_cell hx7 4).trans rfl
          have v0 := (blk_cell hx8 0).trans rfl
          have v1 := (blk_cell hx8 1).trans rfl
          have v4 := (blk_cell hx8 4).trans rfl
          clear hg6 hw7 hb7 hx7 hLO6 hml hhl hLO7 hLO8 hcu8 hF8 hch9 hx8
          go_wp2
          go_roundg (80 - (i + 1))
          case measure => omega
          case rel => exact ⟨i + 1, nx, _, _, _, cu', ch', rfl, by go_num, by omega, Nat.le_refl _, hP9, hLO9⟩
      · as_aux_lemma =>
        by_cases hL : b.L = []
        · have hft := fetch_no HLO3.out.bi d3 hL
          have hP7 : Aside0 (PL b n (i + 1) nx hd us cu ch) := ⟨⟨HP.out.oj, HP.out.z, by have := HP.out.ct; omega, by have := HP.out.nx; omega, by have := HP.out.cu; omega, by have := HP.out.ch; omega⟩⟩
          clear hL
          go_wp2_with (go_at_call 12; refine hft.mono ?_; clear hft; rintro e w6 ⟨rfl, hg6⟩)
          go_roundg (80 - (i + 1))
          case measure => omega
          case rel => exact ⟨i + 1, nx, _, hd, us, cu, ch, rfl, by go_num, by omega, Nat.le_refl _, hP7, ⟨(HLO3.out.call hg6.out).step (below_alloc (Below.refl _ _) _)⟩⟩
        · have h0 : 0 < b.L.length := List.length_pos_iff.2 hL
          have hctb := HP.out.ct
          obtain ⟨x, hx⟩ : ∃ x, (fetchJ b).f0 = x := ⟨_, rfl⟩
          obtain ⟨q, hq⟩ : ∃ q : Int, b.ct + 1 = q := ⟨_, rfl⟩
          obtain ⟨us0, hus0⟩ : ∃ z, usedOf b x = z := ⟨_, rfl⟩
          obtain ⟨t, ht⟩ : ∃ t : Int, us0 + 1 = t := ⟨_, rfl⟩
          have hft := fetch_yes HLO3.out.bi d3 h0 (by omega) us0 (by rw [hx]; exact hus0) q hq
          rw [hx, ht] at hft
          obtain ⟨f1, f2, f3, f4, f5, f6, f7⟩ := HP.out.oj.fetch HLO3.out.bi.inv h0 d3 x q t hx hq (by rw [hus0]; exact ht)
          obtain ⟨u0, hu0⟩ : ∃ z, (us x).getD 0 = z := ⟨_, rfl⟩
          rw [hu0] at f3
          have hxw : (Lit.int .i64 x).wf = true := wf_small (by omega)
          have hwu : IntKind.i64.wrap (u0 + 1) = t := by rw [i64_w, f3]; unfold wrap64; omega
          have hwn : IntKind.i64.wrap (n + 1) = n + 1 := by rw [i64_w]; unfold wrap64; omega
          have F7 := Aside0.mk f7
          have F2 := Aside0.mk f2
          have HU0 := Aside0.mk hu0
          have k1 : ¬ x < 0 := by omega
          have k2 : ¬ (nx : Int) ≤ x := by omega
          have k3 : ¬ n + 1 < t := by omega
          have k4 : ¬ q < 1 := by omega
          have hql : Aside0 (q ≤ (i + 1 : Nat)) := ⟨by omega⟩
          have hxl := Aside0.mk f1
          clear hL h0 hx hq hus0 ht f1 f2 f3 f4 f5 f6 f7 hu0 hctb
          go_upto_region 31 with (go_at_call 12; refine hft.mono ?_; clear hft; rintro e w6 ⟨rfl, hg6⟩)
          generalize hw7 : w6.alloc (.cells #[.int .i64 q, .int .i64 x, .int .i64 0, .int .i64 0, .int .i64 t, .int .u64 d3] 33) = w7
          have hb7 : Below w6.heap.size w6 w7 := by rw [← hw7]; exact below_alloc (Below.refl _ _) _
          have hx7 : w7.heap[w6.heap.size]? = some (.cells #[.int .i64 q, .int .i64 x, .int .i64 0, .int .i64 0, .int .i64 t, .int .u64 d3] 33 (0, 0)) := by rw [← hw7]; exact blk_new _ _
          have hLO6 := HLO3.out.call hg6.out
          have hml : mu < w6.heap.size := hLO6.u.lt
          have hhl : mh < w6.heap.size := hLO6.h.lt
          have hLO7 := hLO6.step hb7
          have hr1 := hLO7.readU x u0 hxw HU0.out
          obtain ⟨w8, cu', hrun8, hLO8, hcu8, hF8⟩ := hLO7.used x t hxw (by have := HP.out.cu; omega)
          have hr2 := hLO8.readH x 0 hxw F2.out
          have hr3 := hLO8.readU x t hxw (by rw [upd_same]; rfl)
          obtain ⟨w9, ch', hrun9, hLO9, hch9, _⟩ := hLO8.holds x q hxw (by have := HP.out.ch; omega)
          have hx8 := (hF8.blk w6.heap.size (blk_lt hx7) (by show ¬ w6.heap.size = mu; omega)).trans hx7
          have hLO9 := Aside0.mk hLO9
          have hP9 : Aside0 (PL (fetchB b d3) n (i + 1) nx (upd hd x (some q)) (upd us x (some t)) cu' ch') := ⟨⟨F7.out, fun z hz => by
            unfold upd
            rw [if_neg (by have := hxl.out; omega)]
            exact HP.out.z z hz, by have := HP.out.ct; show b.ct + 1 ≤ _; omega, by have := HP.out.nx; omega, by have := HP.out.cu; omega, by have := HP.out.ch; omega⟩⟩
          generalize w6.heap.size = kx at hx7 hx8 ⊢
          have z0 := (blk_cell hx7 0).trans rfl
          have z1 := (blk_cell hx7 1).trans rfl
          have z4 := (blk_cell hx7 4).trans rfl
          have v0 := (blk_cell hx8 0).trans rfl
          have v1 := (blk_cell hx8 1).trans rfl
          have v4 := (blk_cell hx8 4).trans rfl
          clear hg6 hw7 hb7 hx7 hLO6 hml hhl hLO7 hLO8 hcu8 hF8 hch9 hx8
          go_wp2
          go_roundg (80 - (i + 1))
          case measure => omega
          case rel => exact ⟨i + 1, nx, _, _, _, cu', ch', rfl, by go_num, by omega, Nat.le_refl _, hP9, hLO9⟩
      · as_aux_lemma =>
        by_cases hL : b.L = []
        · have hft := fetch_no HLO3.out.bi d3 hL
          have hP7 : Aside0 (PL b n (i + 1) nx hd us cu ch) := ⟨⟨HP.out.oj, HP.out.z, by have := HP.out.ct; omega, by have := HP.out.nx; omega, by have := HP.out.cu; omega, by have := HP.out.ch; omega⟩⟩
          clear hL
          go_wp2_with (go_at_call 12; refine hft.mono ?_; clear hft; rintro e w6 ⟨rfl, hg6⟩)
          go_roundg (80 - (i + 1))
          case measure => omega
          case rel => exact ⟨i + 1, nx, _, hd, us, cu, ch, rfl, by go_num, by omega, Nat.le_refl _, hP7, ⟨(HLO3.out.call hg6.out).step (below_alloc (Below.refl _ _) _)⟩⟩
        · have h0 : 0 < b.L.length := List.length_pos_iff.2 hL
          have hctb := HP.out.ct
          obtain ⟨x, hx⟩ : ∃ x, (fetchJ b).f0 = x := ⟨_, rfl⟩
          obtain ⟨q, hq⟩ : ∃ q : Int, b.ct + 1 = q := ⟨_, rfl⟩
          obtain ⟨us0, hus0⟩ : ∃ z, usedOf b x = z := ⟨_, rfl⟩
          obtain ⟨t, ht⟩ : ∃ t : Int, us0 + 1 = t := ⟨_, rfl⟩
          have hft := fetch_yes HLO3.out.bi d3 h0 (by omega) us0 (by rw [hx]; exact hus0) q hq
          rw [hx, ht] at hft
          obtain ⟨f1, f2, f3, f4, f5, f6, f7⟩ := HP.out.oj.fetch HLO3.out.bi.inv h0 d3 x q t hx hq (by rw [hus0]; exact ht)
          obtain ⟨u0, hu0⟩ : ∃ z, (us x).getD 0 = z := ⟨_, rfl⟩
          rw [hu0] at f3
          have hxw : (Lit.int .i64 x).wf = true := wf_small (by omega)
          have hwu : IntKind.i64.wrap (u0 + 1) = t := by rw [i64_w, f3]; unfold wrap64; omega
          have hwn : IntKind.i64.wrap (n + 1) = n + 1 := by rw [i64_w]; unfold wrap64; omega
          have F7 := Aside0.mk f7
          have F2 := Aside0.mk f2
          have HU0 := Aside0.mk hu0
          have k1 : ¬ x < 0 := by omega
          have k2 : ¬ (nx : Int) ≤ x := by omega
          have k3 : ¬ n + 1 < t := by omega
          have k4 : ¬ q < 1 := by omega
          have hql : Aside0 (q ≤ (i + 1 : Nat)) := ⟨by omega⟩
          have hxl := Aside0.mk f1
          clear hL h0 hx hq hus0 ht f1 f2 f3 f4 f5 f6 f7 hu0 hctb
          go_upto_region 31 with (go_at_call 12; refine hft.mono ?_; clear hft; rintro e w6 ⟨rfl, hg6⟩)
          generalize hw7 : w6.alloc (.cells #[.int .i64 q, .int .i64 x, .int .i64 0, .int .i64 0, .int .i64 t, .int .u64 d3] 33) = w7
          have hb7 : Below w6.heap.size w6 w7 := by rw [← hw7]; exact below_alloc (Below.refl _ _) _
          have hx7 : w7.heap[w6.heap.size]? = some (.cells #[.int .i64 q, .int .i64 x, .int .i64 0, .int .i64 0, .int .i64 t, .int .u64 d3] 33 (0, 0)) := by rw [← hw7]; exact blk_new _ _
          have hLO6 := HLO3.out.call hg6.out
          have hml : mu < w6.heap.size := hLO6.u.lt
          have hhl : mh < w6.heap.size := hLO6.h.lt
          have hLO7 := hLO6.step hb7
          have hr1 := hLO7.readU x u0 hxw HU0.out
          obtain ⟨w8, cu', hrun8, hLO8, hcu8, hF8⟩ := hLO7.used x t hxw (by have := HP.out.cu; omega)
          have hr2 := hLO8.readH x 0 hxw F2.out
          have hr3 := hLO8.readU x t hxw (by rw [upd_same]; rfl)
          obtain ⟨w9, ch', hrun9, hLO9, hch9, _⟩ := hLO8.holds x q hxw (by have := HP.out.ch; omega)
          have hx8 := (hF8.blk w6.heap.size (blk_lt hx7) (by show ¬ w6.heap.size = mu; omega)).trans hx7
          have hLO9 := Aside0.mk hLO9
          have hP9 : Aside0 (PL (fetchB b d3) n (i + 1) nx (upd hd x (some q)) (upd us x (some t)) cu' ch') := ⟨⟨F7.out, fun z hz => by
            unfold upd
            rw [if_neg (by have := hxl.out; omega)]
            exact HP.out.z z hz, by have := HP.out.ct; show b.ct + 1 ≤ _; omega, by have := HP.out.nx; omega, by have := HP.out.cu; omega, by have := HP.out.ch; omega⟩⟩
          generalize w6.heap.size = kx at hx7 hx8 ⊢
          have z0 := (blk_cell hx7 0).trans rfl
          have z1 := (blk_cell hx7 1).trans rfl
          have z4 := (blk_cell hx7 4).trans rfl
          have v0 := (blk_cell hx8 0).trans rfl
          have v1 := (blk_cell hx8 1).trans rfl
          have v4 := (blk_cell hx8 4).trans rfl
          clear hg6 hw7 hb7 hx7 hLO6 hml hhl hLO7 hLO8 hcu8 hF8 hch9 hx8
          go_wp2
          go_roundg (80 - (i + 1))
          case measure => omega
          case rel => exact ⟨i + 1, nx, _, _, _, cu', ch', rfl, by go_num, by omega, Nat.le_refl _, hP9, hLO9⟩
      · as_aux_lemma =>
        cases hg : lk gjo b.Ls job with
        | none =>
          have hn0 := num_none hg
          have e0 : num0 = 0 := by rw [← HNM.out]; exact hn0
          subst e0
          have han := answer_no HLO3.out.bi 0 (by decide) (lk_zero HLO3.out.bi.inv)
          clear hg
          go_upto_region 40 with (go_at_call 13; refine han.mono ?_; clear han; rintro e w6 ⟨rfl, hb6⟩)
          obtain ⟨w7, ch', hrun7, hLO7, hch7, _⟩ := (HLO3.out.step hb6).holds job 0 hjw (by have := HP.out.ch; omega)
          have hLO7 := Aside0.mk hLO7
          have hP7 : Aside0 (PL b n (i + 1) nx (upd hd job (some 0)) us cu ch') := ⟨⟨HP.out.oj.same job hn0, HP.out.z, by have := HP.out.ct; omega, by have := HP.out.nx; omega, by have := HP.out.cu; omega, by have := HP.out.ch; omega⟩⟩
          clear hb6 hn0
          go_wp2
          go_roundg (80 - (i + 1))
          case measure => omega
          case rel => exact ⟨i + 1, nx, b, _, us, cu, ch', rfl, by go_num, by omega, Nat.le_refl _, hP7, hLO7⟩
        | some g =>
          obtain ⟨k1, k2, k3, k4⟩ := lk_num HLO3.out.bi.inv hg
          have e0 : num0 = g.n := by rw [← HNM.out]; exact num_some hg
          subst e0
          have hnz : (g.n == 0) = false := beq_eq_false_iff_ne.2 (by omega)
          have hnz2 : (g.n != 0) = true := bne_iff_ne.2 (by omega)
          have hnz3 : ¬ g.n = 0 := by omega
          have han := answer_yes HLO3.out.bi g.n (wf_small (by have := HP.out.ct; omega)) g k1
          rw [k2] at han
          clear hg k1 k2 k3 k4
          go_upto_region 40 with (go_at_call 13; refine han.mono ?_; clear han; rintro e w6 ⟨rfl, hg6⟩)
          obtain ⟨w7, ch', hrun7, hLO7, hch7, _⟩ := (HLO3.out.call hg6.out).holds job 0 hjw (by have := HP.out.ch; omega)
          have hLO7 := Aside0.mk hLO7
          have hP7 : Aside0 (PL (goneB b job) n (i + 1) nx (upd hd job (some 0)) us cu ch') := ⟨⟨HP.out.oj.gone job, HP.out.z, by have := HP.out.ct; show b.ct ≤ _; omega, by have := HP.out.nx; omega, by have := HP.out.cu; omega, by have := HP.out.ch; omega⟩⟩
          clear hg6
          go_wp2
          go_roundg (80 - (i + 1))
          case measure => omega
          case rel => exact ⟨i + 1, nx, _, _, us, cu, ch', rfl, by go_num, by omega, Nat.le_refl _, hP7, hLO7⟩
      · as_aux_lemma =>
        cases hg : lk gjo b.Ls job with
        | none =>
          have hn0 := num_none hg
          have e0 : num0 = 0 := by rw [← HNM.out]; exact hn0
          subst e0
          have han := fail_no HLO3.out.bi 0 (by decide) (lk_zero HLO3.out.bi.inv)
          clear hg
          go_upto_region 45 with (go_at_call 14; refine han.mono ?_; clear han; rintro e w6 ⟨rfl, hb6⟩)
          obtain ⟨w7, ch', hrun7, hLO7, hch7, _⟩ := (HLO3.out.step hb6).holds job 0 hjw (by have := HP.out.ch; omega)
          have hLO7 := Aside0.mk hLO7
          have hP7 : Aside0 (PL b n (i + 1) nx (upd hd job (some 0)) us cu ch') := ⟨⟨HP.out.oj.same job hn0, HP.out.z, by have := HP.out.ct; omega, by have := HP.out.nx; omega, by have := HP.out.cu; omega, by have := HP.out.ch; omega⟩⟩
          clear hb6 hn0
          go_wp2
          go_roundg (80 - (i + 1))
          case measure => omega
          case rel => exact ⟨i + 1, nx, b, _, us, cu, ch', rfl, by go_num, by omega, Nat.le_refl _, hP7, hLO7⟩
        | some g =>
          obtain ⟨k1, k2, k3, k4⟩ := lk_num HLO3.out.bi.inv hg
          have e0 : num0 = g.n := by rw [← HNM.out]; exact num_some hg
          subst e0
          have hnz : (g.n == 0) = false := beq_eq_false_iff_ne.2 (by omega)
          have hnz2 : (g.n != 0) = true := bne_iff_ne.2 (by omega)
          have hnz3 : ¬ g.n = 0 := by omega
          have han := fail_yes HLO3.out.bi g.n (wf_small (by have := HP.out.ct; omega)) g k1
          unfold failB at han
          rw [k2] at han
          obtain ⟨jj, hjj, hji, hjs, hjk, hju1, hju2, _⟩ := HLO3.out.bi.inv.job (lk_mem hg).1
          rw [k2] at hji hjk
          have hus : usedOf b job = jj.us := by unfold usedOf; rw [hjk]; rfl
          have hu9 := HP.out.oj.us jj hjj
          rw [hji, ← hus] at hu9
          have htr := HP.out.oj.tr
          have hub : usedOf b job ≤ n + 1 := by rw [hus, ← htr]; exact hju2
          rw [htr] at han
          have hrest := HP.out.oj.rest HLO3.out.bi.inv hg
          have hgone := Aside0.mk (HP.out.oj.gone job)
          generalize usedOf b job = ub at han hu9 hub hrest
          have hrest := Aside0.mk hrest
          have HUS := Aside0.mk hu9
          have hw1 : IntKind.i64.wrap (n + 1) = n + 1 := by rw [i64_w]; unfold wrap64; omega
          clear hg k1 k2 k3 k4 hjj hji hjs hjk hju1 hju2 hus hu9 htr
          by_cases hdead : n < ub
          · obtain rfl : ub = n + 1 := by omega
            rw [if_pos hdead, decide_eq_true hdead] at han
            clear hdead hub
            go_upto_region 43 with (go_at_call 14; refine han.mono ?_; clear han; rintro e w6 ⟨rfl, hg6⟩)
            have hLO6 := HLO3.out.call hg6.out
            have hrU6 := hLO6.readU job (n + 1) hjw HUS.out
            obtain ⟨w7, ch', hrun7, hLO7, hch7, _⟩ := hLO6.holds job 0 hjw (by have := HP.out.ch; omega)
            have hLO7 := Aside0.mk hLO7
            have hP7 : Aside0 (PL (goneB b job) n (i + 1) nx (upd hd job (some 0)) us cu ch') := ⟨⟨hgone.out, HP.out.z, by have := HP.out.ct; show b.ct ≤ _; omega, by have := HP.out.nx; omega, by have := HP.out.cu; omega, by have := HP.out.ch; omega⟩⟩
            clear hg6 hLO6
            go_wp2
            go_roundg (80 - (i + 1))
            case measure => omega
            case rel => exact ⟨i + 1, nx, _, _, us, cu, ch', rfl, by go_num, by omega, Nat.le_refl _, hP7, hLO7⟩
          · rw [if_neg hdead, decide_eq_false hdead] at han
            have hne : (ub == n + 1) = false := beq_eq_false_iff_ne.2 (by omega)
            clear hdead hub
            go_upto_region 43 with (go_at_call 14; refine han.mono ?_; clear han; rintro e w6 ⟨rfl, hg6⟩)
            have hLO6 := HLO3.out.call hg6.out
            have hrU6 := hLO6.readU job ub hjw HUS.out
            obtain ⟨w7, ch', hrun7, hLO7, hch7, _⟩ := hLO6.holds job 0 hjw (by have := HP.out.ch; omega)
            obtain ⟨j2, hj2, hj3, hj4, hj5⟩ := hrest.out
            have hre := rested_yes hLO7.bi j2 hj2 hj4
            rw [hj3] at hre
            have hLO7 := Aside0.mk hLO7
            have hP7 : Aside0 (PL (wakeB (restB b job ub) j2) n (i + 1) nx (upd hd job (some 0)) us cu ch') := ⟨⟨hj5, HP.out.z, by have := HP.out.ct; show b.ct ≤ _; omega, by have := HP.out.nx; omega, by have := HP.out.cu; omega, by have := HP.out.ch; omega⟩⟩
            clear hg6 hLO6 hj2 hj3 hj4 hj5
            go_wp2_with (go_at_call 15; refine hre.mono ?_; clear hre; rintro e w8 ⟨rfl, hg8⟩)
            go_roundg (80 - (i + 1))
            case measure => omega
            case rel => exact ⟨i + 1, nx, _, _, us, cu, ch', rfl, by go_num, by omega, Nat.le_refl _, hP7, ⟨hLO7.out.call hg8.out⟩⟩
      · as_aux_lemma =>
        by_cases hin : job ∈ b.Js.map jid
        · have hdr7 := bdrop_yes HLO3.out.bi job hjw hin (by have := HP.out.ct; omega)
          cases hg : lk gjo b.Ls job with
          | none =>
            have e0 : num0 = 0 := by rw [← HNM.out]; exact num_none hg
            subst e0
            clear hg hin
            go_upto_region 19 with (go_at_call 17; refine hdr7.mono ?_; clear hdr7; rintro e w6 ⟨rfl, hg6⟩)
            obtain ⟨w7, ch', hrun7, hLO7, hch7, _⟩ := (HLO3.out.call hg6.out).holds job 0 hjw (by have := HP.out.ch; omega)
            have hLO7 := Aside0.mk hLO7
            have hP7 : Aside0 (PL (goneB b job) n (i + 1) nx (upd hd job (some 0)) us cu ch') := ⟨⟨HP.out.oj.gone job, HP.out.z, by have := HP.out.ct; show b.ct ≤ _; omega, by have := HP.out.nx; omega, by have := HP.out.cu; omega, by have := HP.out.ch; omega⟩⟩
            clear hg6
            go_wp2
            go_roundg (80 - (i + 1))
            case measure => omega
            case rel => exact ⟨i + 1, nx, _, _, us, cu, ch', rfl, by go_num, by omega, Nat.le_refl _, hP7, hLO7⟩
          | some g =>
            obtain ⟨k1, k2, k3, k4⟩ := lk_num HLO3.out.bi.inv hg
            have e0 : num0 = g.n := by rw [← HNM.out]; exact num_some hg
            subst e0
            have hnz : (g.n == 0) = false := beq_eq_false_iff_ne.2 (by omega)
            have hnz2 : (g.n != 0) = true := bne_iff_ne.2 (by omega)
            have hnz3 : ¬ g.n = 0 := by omega
            have hgw : (Lit.int .i64 g.n).wf = true := wf_small (by have := HP.out.ct; omega)
            have hno : Aside0 (lk gno (goneB b job).Ls g.n = none) := ⟨by
              show lk gno (Lst.rm gjo b.Ls job) g.n = none
              rw [← k2, ← rm_eq HLO3.out.bi.inv.gn HLO3.out.bi.inv.gj (lk_mem hg).1, lk_rm, if_pos rfl]⟩
            clear hg hin k1 k2 k3 k4
            go_upto_region 16 with (go_at_call 17; refine hdr7.mono ?_; clear hdr7; rintro e w6 ⟨rfl, hg6⟩)
            have hLO6 := Aside0.mk (HLO3.out.call hg6.out)
            have hls := lease_no hLO6.out.bi g.n hgw hno.out
            clear hg6
            go_upto_region 19 with (go_at_call 20; refine hls.mono ?_; clear hls; rintro e w8 ⟨rfl, hb8⟩)
            have hLO9 := (hLO6.out.step hb8).step (below_alloc (Below.refl w8.heap.size w8) (.cells #[.int .i64 0, .int .i64 0, .int .i64 0, .int .i64 0, .int .i64 0, .int .u64 0] 33))
            generalize w8.alloc (.cells #[.int .i64 0, .int .i64 0, .int .i64 0, .int .i64 0, .int .i64 0, .int .u64 0] 33) = w9 at hLO9 ⊢
            obtain ⟨w7, ch', hrun7, hLO7, hch7, _⟩ := hLO9.holds job 0 hjw (by have := HP.out.ch; omega)
            have hLO7 := Aside0.mk hLO7
            have hP7 : Aside0 (PL (goneB b job) n (i + 1) nx (upd hd job (some 0)) us cu ch') := ⟨⟨HP.out.oj.gone job, HP.out.z, by have := HP.out.ct; show b.ct ≤ _; omega, by have := HP.out.nx; omega, by have := HP.out.cu; omega, by have := HP.out.ch; omega⟩⟩
            clear hLO9 hb8 hLO6
            go_wp2
            go_roundg (80 - (i + 1))
            case measure => omega
            case rel => exact ⟨i + 1, nx, _, _, us, cu, ch', rfl, by go_num, by omega, Nat.le_refl _, hP7, hLO7⟩
        · have hdr7 := bdrop_no HLO3.out.bi job hjw hin
          have hnl : num b job = 0 := num_none (lk_none.2 (fun hx => by
            obtain ⟨g, hg, e⟩ := List.mem_map.1 hx
            obtain ⟨_, _, jj, hjj, e2, _⟩ := HLO3.out.bi.inv.g g hg
            exact hin (List.mem_map.2 ⟨jj, hjj, e2.trans e⟩)))
          have hP6 := Aside0.mk (HP.out.oj.same job hnl)
          clear hin hnl
          go_upto_region 19 with (go_at_call 17; refine hdr7.mono ?_; clear hdr7; rintro e w6 ⟨rfl, hb6⟩)
          obtain ⟨w7, ch', hrun7, hLO7, hch7, _⟩ := (HLO3.out.step hb6).holds job 0 hjw (by have := HP.out.ch; omega)
          have hLO7 := Aside0.mk hLO7
          have hP7 : Aside0 (PL b n (i + 1) nx (upd hd job (some 0)) us cu ch') := ⟨⟨hP6.out, HP.out.z, by have := HP.out.ct; omega, by have := HP.out.nx; omega, by have := HP.out.cu; omega, by have := HP.out.ch; omega⟩⟩
          clear hb6
          go_wp2
          go_roundg (80 - (i + 1))
          case measure => omega
          case rel => exact ⟨i + 1, nx, b, _, us, cu, ch', rfl, by go_num, by omega, Nat.le_refl _, hP7, hLO7⟩
    · by_cases hi8 : (i : Int) < (l.length : Int)
      · have hi9 : ¬ (i : Int) < 80 := by omega
        go_wp2_with (go_at_call 16; refine (wakes12 _).mono ?_; rintro e w2 ⟨rfl, hb2⟩)
        go_ret
        exact ⟨rfl, (HLO.out.fr.trans (Fr.of_below hb2)).below (Nat.le_refl _) (fun k h => h)⟩
      · go_wp2_with (go_at_call 16; refine (wakes12 _).mono ?_; rintro e w2 ⟨rfl, hb2⟩)
        go_ret
        exact ⟨rfl, (HLO.out.fr.trans (Fr.of_below hb2)).below (Nat.le_refl _) (fun k h => h)⟩
end Go.Proofs.Ytfkebbkfmchnaaa.Bk
