/- JobsRoom's walk. Conditions: the row read. -/
import Derived.Test.YtfkebbkfmchnaaaRp
import Derived.Deep.DeepCutAuto
import Derived.Deep.CutBlock
import Derived.OpenShut
set_option linter.unusedVariables false
namespace Go.Proofs.Ytfkebbkfmchnaaa.Bk
open Go.RowKit Go.Maps Go.Proofs.Ytfkebbkfmchnaaa.PBase Go.Proofs.Ytfkebbkfmchnaaa.Cat Go.Proofs.Ytfkebbkfmchnaaa.Heap Go.Proofs.Ytfkebbkfmchnaaa.Ln Go.Proofs.Ytfkebbkfmchnaaa.Lst Go.Proofs.Ytfkebbkfmchnaaa.Mq Go.Proofs.YtfkebbkfmchnaaaW.PrintWords Go.Proofs.YtfkebbkfmchnaaaW.PrintLast Go.Proofs.YtfkebbkfmchnaaaW.PrintMore
/-- A law's book. -/
structure BN (W : World) (G : Nat) (w : World) (b : Book) : Prop where
  bi : BI W.heap.size (fun _ => False) w G b
  fr : Fr (fun k => W.heap.size ≤ k) W w
/-- .. with a variable's block kx, which holds o. -/
structure BB (W : World) (G kx : Nat) (o : Obj) (w : World) (b : Book) : Prop where
  bi : BI W.heap.size (fun k => k = kx) w G b
  bx : w.heap[kx]? = some o
  fr : Fr (fun k => W.heap.size ≤ k) W w
section
variable {W w w' : World} {G kx : Nat} {o : Obj} {b b' : Book}
theorem BN.start (hb : Below W.heap.size W w) (h : BI W.heap.size (fun _ => False) w G b) : BN W G w b := ⟨h, Fr.of_below hb⟩
theorem BN.call (h : BN W G w b) (hk : BI W.heap.size (fun _ => False) w' G b' ∧ Fr (KX W.heap.size (fun _ => False)) w w') : BN W G w' b' := ⟨hk.1, h.fr.trans (hk.2.weak (fun k hk => hk.1))⟩
theorem BN.step (h : BN W G w b) (hb : Below w.heap.size w w') : BN W G w' b := ⟨h.bi.step hb, h.fr.trans (Fr.of_below hb)⟩
theorem BN.box (h : BN W G w b) (hb : Below w.heap.size w w') (hx : w'.heap[kx]? = some o) (hk : w.heap.size ≤ kx) : BB W G kx o w' b :=
  ⟨(h.bi.more (Y := fun k => k = kx) hb (fun k e => by rw [e]; exact ⟨hk, blk_lt hx⟩)).sub (fun k e => .inr e), hx, h.fr.trans (Fr.of_below hb)⟩
theorem BB.call (h : BB W G kx o w b) (hk : BI W.heap.size (fun k => k = kx) w' G b' ∧ Fr (KX W.heap.size (fun k => k = kx)) w w') : BB W G kx o w' b' := ⟨hk.1, (hk.2.blk kx (blk_lt h.bx) (fun e => e.2 rfl)).trans h.bx, h.fr.trans (hk.2.weak (fun k hk => hk.1))⟩
theorem BB.step (h : BB W G kx o w b) (hb : Below w.heap.size w w') : BB W G kx o w' b := ⟨h.bi.step hb, blk_below h.bx hb, h.fr.trans (Fr.of_below hb)⟩
theorem BB.un (h : BB W G kx o w b) : BN W G w b := ⟨h.bi.sub (fun k e => e.elim), h.fr⟩
theorem BB.inv (h : BB W G kx o w b) : Inv b := h.bi.inv
theorem BN.inv (h : BN W G w b) : Inv b := h.bi.inv
end
theorem wf_small {a : Int} (h : 0 ≤ a ∧ a ≤ 1000000) : (Lit.int .i64 a).wf = true := Go.WalkArith.wf_i64 (by omega)
set_option maxHeartbeats 8000000 in
set_option maxRecDepth 100000 in
theorem room_walk (W : World) (a0 a1 : Int) (n : Nat) (m : Int) (A : Option Addr) (c : Nat) (L : List Int) (hn : wrap64 (1 + (wrap64 a0).tmod 20) = (n : Int)) (hm : (wrap64 a1).tmod 3 = m) (h1 : 1 ≤ n ∧ n ≤ 20) (h2 : 0 ≤ m ∧ m < 3) (hC : Kd.C (Kd.int .u8) W A L.length L) (hc : L.length ≤ c) (hu : ∀ x ∈ L, 0 ≤ x ∧ x < 256) :
    Calls Try.prog 4 #[.int .u8 a0, .int .u8 a1, .slice A L.length c] W fun e w' => e = .returned (.bool true) ∧ Below W.heap.size W w' := by
  have HN := Aside0.mk (And.intro hn hm)
  have HC := Aside0.mk (And.intro hC hu)
  clear hn hm hC hu
  go_enter Try.func4, Try.ntmps4
  go_upto_region 1 with (fail)
  go_cut [7, 8] (fun v7 v8 wc => v7 = .int .i64 (n : Int) ∧ v8 = .int .i64 m ∧ W = wc)
  case first =>
    as_aux_lemma =>
    go_wp2_with (fail)
    go_meet
    exact ⟨congrArg (Value.int .i64) (by first | exact HN.out.1 | (rw [i64_w, i64_w]; exact HN.out.1)), congrArg (Value.int .i64) (by first | exact HN.out.2 | (rw [i64_w]; exact HN.out.2)), rfl⟩
  case rest =>
    as_aux_lemma =>
    obtain ⟨rfl, rfl, rfl⟩ := hcut
    go_upto_block 0 with (go_at_call 8; refine (bnew_good 1 n m _ _ (Nat.le_refl _) (by decide) (by omega) (by omega)).mono ?_; rintro e w1 ⟨G, rfl, hb1, h1'⟩)
    have hS := Aside0.mk (BN.start hb1 h1'.out)
    have hk0 : Aside0 (∀ w', Fr (fun k => W.heap.size ≤ k) W w' → ∀ i : Nat, i < L.length → ∃ ad, A = some ad ∧ w'.cell? (ad.add i) = some (.int .u8 (L.getD i 0))) := ⟨fun w' hf i hi => by
      obtain ⟨ad, cs, e, hl, hK, hcc⟩ := Kd.C_get HC.out.1 0 (i : Int) (by omega) (by omega)
      refine ⟨ad, e, ?_⟩
      have hK : cs = [Value.int .u8 (L.getD (i : Int).toNat 0)] := hK
      rw [Int.toNat_natCast] at hK hcc
      have h5 := hcc 0 _ (by rw [hK]; rfl)
      rw [show (Kd.int IntKind.u8).sz = 1 from rfl, Nat.mul_one, Nat.add_zero] at h5
      refine hf.cell h5 ?_
      have := World.block_lt_of_cell? W _ h5
      show ¬ W.heap.size ≤ _
      omega⟩
    clear hb1 h1'
    go_cut [] (fun wx => ∃ b : Book, Aside0 (RJ b n m 0) ∧ Aside0 (BN W G wx b))
    case first =>
      as_aux_lemma =>
      go_wp2_with (fail)
      go_loopg [10] n (fun gg v10 wr => ∃ (k : Nat) (b : Book), v10 = .int .i64 k ∧ k ≤ n ∧ n - k ≤ gg ∧ Aside0 (FL b n m k) ∧ Aside0 (BN W G wr b))
      case atStart => exact ⟨0, _, rfl, Nat.zero_le _, by omega, ⟨FL.start 1 n m⟩, hS⟩
      case round =>
        obtain ⟨k, b, rfl, hk, hgg, hF, hB⟩ := hrel
        clear hS
        by_cases hkn : k < n
        · have hkn2 : (k : Int) < (n : Int) := by omega
          have hcl : 0 ≤ (k : Int).tmod 8 ∧ (k : Int).tmod 8 < 8 := ⟨Int.tmod_nonneg _ (by omega), Int.tmod_lt_of_pos _ (by decide)⟩
          obtain ⟨cl, hcl2⟩ : ∃ cl, (k : Int).tmod 8 = cl := ⟨_, rfl⟩
          rw [hcl2] at hcl
          have ha := hF.out.add (cl := cl) ⟨by omega, hkn2⟩ hcl
          have had := Aside0.mk (add_B hB.out.bi k cl (wf_small (by omega)) 0 ha.1 _ (addT_ok ha.1))
          have ha2 := Aside0.mk ha.2
          clear ha hcl
          go_wp2_with (go_at_call 9; refine had.out.mono ?_; rintro e w2 ⟨rfl, hg2⟩)
          go_roundg (n - (k + 1))
          case measure => omega
          case rel => exact ⟨k + 1, _, by go_num, by omega, Nat.le_refl _, ⟨by have := ha2.out; exact_mod_cast this⟩, ⟨hB.out.call hg2.out⟩⟩
        · have hkn2 : ¬ (k : Int) < (n : Int) := by omega
          obtain rfl : k = n := by omega
          go_wp2_with (fail)
          go_meet
          exact ⟨b, ⟨hF.out.done⟩, hB⟩
    case rest =>
      as_aux_lemma =>
      obtain ⟨b, hR, hB⟩ := hcut
      clear hS
      go_wp2_with (fail)
      go_loopg [11] n (fun gg v11 wr => ∃ (i : Nat) (b : Book), v11 = .int .i64 i ∧ i ≤ n ∧ n - i ≤ gg ∧ Aside0 (RJ b n m i) ∧ Aside0 (BN W G wr b))
      case atStart => exact ⟨0, b, rfl, Nat.zero_le _, by omega, hR, hB⟩
      case round =>
        obtain ⟨i, b, rfl, hi, hgg, hR, hB⟩ := hrel
        by_cases him : i < n
        · have him2 : (i : Int) < (n : Int) := by omega
          go_upto_if 53 with (fail)
          go_cut [12] (fun v12 wx => ∃ h : Int, v12 = .int .u8 h ∧ 0 ≤ h ∧ h < 256 ∧ wr = wx)
          case first =>
            as_aux_lemma =>
            by_cases hil : i < L.length
            · have hil2 : (i : Int) < (L.length : Int) := by omega
              have hil0 : (0 : Int) ≤ (i : Int) := by omega
              obtain ⟨ad, e, hcell⟩ := hk0.out wr hB.out.fr i hil
              subst e
              have hrange' := HC.out.2 (L.getD i 0) (by rw [List.getD_eq_getElem?_getD, List.getElem?_eq_getElem hil]; exact List.getElem_mem hil)
              generalize L.getD i 0 = hv at hcell hrange'
              have hrange := Aside0.mk hrange'
              clear hrange'
              go_wp2_with (fail)
              go_meet
              exact ⟨_, rfl, hrange.out.1, hrange.out.2, rfl⟩
            · have hil2 : ¬ (i : Int) < (L.length : Int) := by omega
              go_wp2_with (fail)
              go_meet
              exact ⟨0, rfl, by decide, by decide, rfl⟩
          case rest =>
            as_aux_lemma =>
            obtain ⟨h, rfl, hh0, hh1, rfl⟩ := hcut
            obtain ⟨id, hid⟩ : ∃ id : Int, 1000 + (i : Int) = id := ⟨_, rfl⟩
            have hidw : (Lit.int .i64 id).wf = true := wf_small (by omega)
            have hfull := hR.out.full (by omega) (by omega)
            rw [hid] at hfull
            have had := add_B hB.out.bi id 0 hidw 10 hfull b (addT_no (by rw [hfull]; decide))
            have hid2 : IntKind.i64.wrap (1000 + (i : Int)) = id := by rw [i64_w, ← hid]; unfold wrap64; omega
            have HID := Aside0.mk hid
            clear hfull hid
            go_upto_region 18 with (first
              | (go_at_call 9; refine had.mono ?_; clear had; rintro e w2 ⟨rfl, hg2⟩; have hB2 := Aside0.mk (hB.out.call hg2.out); have hop := open_B hB2.out.bi; rw [hR.out.len] at hop; clear hg2)
              | (go_at_call 11; refine hop.mono ?_; clear hop; rintro e w3 ⟨rfl, hb3⟩))
            have hB3 := Aside0.mk (hB2.out.step hb3)
            obtain ⟨f1, f2, f3, f4, f5⟩ := hR.out.fetch hB3.out.inv (by omega)
            have hft := fetch_yes hB3.out.bi 5 f1 (by rw [hR.out.ct]; omega) 0 f2 ((i : Int) + 1) (by rw [hR.out.ct])
            rw [show (0 : Int) + 1 = 1 from rfl] at hft
            generalize hx : (fetchJ b).f0 = x at f3 f4 f5 hft
            generalize hb' : fetchB b 5 = b2 at f3 f4 f5 hft
            have hM := Aside0.mk f3
            have hL := Aside0.mk f4
            have hU := Aside0.mk f5
            clear hB2 hB hb3 hb' f1 f2 f3 f4 f5
            obtain ⟨q, hq⟩ : ∃ q : Int, (i : Int) + 1 = q := ⟨_, rfl⟩
            rw [hq] at hft hL
            go_upto_region 19 with (go_at_call 12; refine hft.mono ?_; clear hft; rintro e w4 ⟨rfl, hg4⟩)
            have hB4 := hB3.out.call hg4.out
            generalize hw5 : w4.alloc (.cells #[.int .i64 q, .int .i64 x, .int .i64 0, .int .i64 0, .int .i64 1, .int .u64 5] 33) = w5
            have hB5 : BB W G w4.heap.size (.cells #[.int .i64 q, .int .i64 x, .int .i64 0, .int .i64 0, .int .i64 1, .int .u64 5] 33 (0, 0)) w5 b2 := hB4.box (by rw [← hw5]; exact below_alloc (Below.refl _ _) _) (by rw [← hw5]; exact blk_new _ _) (Nat.le_refl _)
            generalize w4.heap.size = kx at hB5 ⊢
            have hful := hM.out.full (by omega) (by omega)
            rw [HID.out] at hful
            have had := add_B hB5.bi id 0 hidw 10 hful b2 (addT_no (by rw [hful]; decide))
            have hB5 := Aside0.mk hB5
            have hxw : (Lit.int .i64 x).wf = true := by
              obtain ⟨j, hj, e⟩ := List.mem_map.1 hM.out.has
              rw [← e]
              exact hB5.out.inv.wf j hj
            clear hg4 hB4 hw5 hB3 hR hful
            have hr2 : h % 3 = 0 ∨ h % 3 = 1 ∨ h % 3 = 2 := by omega
            have hr2 := Aside0.mk hr2
            go_upto_block 4 with (go_at_call 9; refine had.mono ?_; clear had; rintro e w6 ⟨rfl, hg6⟩)
            have hB6 := Aside0.mk (hB5.out.call hg6.out)
            have hqw : (Lit.int .i64 q).wf = true := wf_small (by omega)
            clear hg6 hB5
            obtain ⟨hr3⟩ := hr2
            generalize h % 3 = r at hr3 ⊢
            go_cut [] (fun wx => ∃ b3 : Book, Aside0 (GJ b3 n m i x) ∧ Aside0 (BB W G kx (.cells #[.int .i64 q, .int .i64 x, .int .i64 0, .int .i64 0, .int .i64 1, .int .u64 5] 33 (0, 0)) wx b3))
            case first =>
              as_aux_lemma =>
              have z0 := (blk_cell hB6.out.bx 0).trans rfl
              have z1 := (blk_cell hB6.out.bx 1).trans rfl
              rcases hr3 with rfl | rfl | rfl
              · have hc1 := answer_yes hB6.out.bi q hqw ⟨q, x, 5⟩ hL.out
                go_wp2_with (go_at_call 13; refine hc1.mono ?_; clear hc1; rintro e w7 ⟨rfl, hg7⟩)
                go_meet
                exact ⟨_, ⟨hM.out.gone hB6.out.inv⟩, ⟨hB6.out.call hg7.out⟩⟩
              · have hc1 := bdrop_yes hB6.out.bi x hxw hM.out.has (by rw [hM.out.ct]; omega)
                go_wp2_with (go_at_call 17; refine hc1.mono ?_; clear hc1; rintro e w7 ⟨rfl, hg7⟩)
                go_meet
                exact ⟨_, ⟨hM.out.gone hB6.out.inv⟩, ⟨hB6.out.call hg7.out⟩⟩
              · have hc1 := fail_yes hB6.out.bi q hqw ⟨q, x, 5⟩ hL.out
                unfold failB at hc1
                rw [show (⟨q, x, 5⟩ : Gr).j = x from rfl, hU.out, hM.out.tr] at hc1
                by_cases hm0 : m = 0
                · subst hm0
                  rw [if_pos (by decide), show decide ((0 : Int) < 1) = true from rfl] at hc1
                  go_wp2_with (go_at_call 14; refine hc1.mono ?_; clear hc1; rintro e w7 ⟨rfl, hg7⟩; have hB7 := Aside0.mk (hB6.out.call hg7.out); have y1 := (blk_cell hB7.out.bx 1).trans rfl)
                  go_meet
                  exact ⟨_, ⟨hM.out.gone hB6.out.inv⟩, hB7⟩
                · have hm1 : ¬ m < 1 := by omega
                  rw [if_neg hm1, decide_eq_false hm1] at hc1
                  have hM7 := Aside0.mk (hM.out.rest (us := 1))
                  have hful := hM7.out.full (by omega) (by omega)
                  rw [HID.out] at hful
                  have hm2 : (m == 0) = false := beq_eq_false_iff_ne.2 hm0
                  go_wp2_with (first
                    | (go_at_call 14; refine hc1.mono ?_; clear hc1; rintro e w7 ⟨rfl, hg7⟩; have hB7 := Aside0.mk (hB6.out.call hg7.out); have y1 := (blk_cell hB7.out.bx 1).trans rfl; have had := add_B hB7.out.bi id 0 hidw 10 hful _ (addT_no (by rw [hful]; decide)); clear hg7)
                    | (go_at_call 9; refine had.mono ?_; clear had; rintro e w8 ⟨rfl, hg8⟩; have hB8 := Aside0.mk (hB7.out.call hg8.out); have hdr := bdrop_yes hB8.out.bi x hxw hM7.out.has (by rw [hM7.out.ct]; omega); clear hg8)
                    | (go_at_call 17; refine hdr.mono ?_; clear hdr; rintro e w9 ⟨rfl, hg9⟩))
                  go_meet
                  exact ⟨_, ⟨hM7.out.gone hB8.out.inv⟩, ⟨hB8.out.call hg9.out⟩⟩
            case rest =>
              as_aux_lemma =>
              obtain ⟨b3, hG, hB7⟩ := hcut
              clear hB6 hM hL hU
              have z1 := (blk_cell hB7.out.bx 1).trans rfl
              have hst := state_B hB7.out.bi x hxw none hG.out.state 0 0 rfl rfl false rfl
              obtain ⟨e7, hR4'⟩ := hG.out.add (by omega) (by omega)
              rw [HID.out] at e7 hR4'
              have hR4 := Aside0.mk hR4'
              clear hR4'
              go_upto_region 38 with (go_at_call 18; refine hst.mono ?_; clear hst; rintro e w8 ⟨rfl, hb8⟩)
              have hB9 := hB7.out.un.step (below_step hb8 (below_alloc (Below.refl w8.heap.size w8) (.cells #[.int .i64 0, .int .i64 0] 44)))
              generalize w8.alloc (.cells #[.int .i64 0, .int .i64 0] 44) = w9 at hB9 ⊢
              have had := add_B hB9.bi id 7 hidw 0 e7 _ (addT_ok e7)
              have hB9 := Aside0.mk hB9
              clear hB7 hb8 z1
              go_wp2_with (first
                | (go_at_call 9; refine had.mono ?_; clear had; rintro e w10 ⟨rfl, hg10⟩; have hB10 := Aside0.mk (hB9.out.call hg10.out); have hop := open_B hB10.out.bi; rw [hR4.out.len] at hop; clear hg10)
                | (go_at_call 11; refine hop.mono ?_; clear hop; rintro e w11 ⟨rfl, hb11⟩))
              go_roundg (n - (i + 1))
              case measure => omega
              case rel => exact ⟨i + 1, _, by go_num, by omega, Nat.le_refl _, ⟨by have := hR4.out; exact_mod_cast this⟩, ⟨hB10.out.step hb11⟩⟩
        · have him2 : ¬ (i : Int) < (n : Int) := by omega
          go_wp2_with (go_at_call 16; refine (wakes12 _).mono ?_; rintro e w2 ⟨rfl, hb2⟩)
          go_ret
          exact ⟨rfl, (hB.out.fr.trans (Fr.of_below hb2)).below (Nat.le_refl _) (fun k h => h)⟩
end Go.Proofs.Ytfkebbkfmchnaaa.Bk
