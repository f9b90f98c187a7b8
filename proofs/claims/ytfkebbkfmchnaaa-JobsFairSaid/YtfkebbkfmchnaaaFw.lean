/- JobsFair's walk. Conditions: the row read. -/
import Derived.Test.YtfkebbkfmchnaaaFp
import Derived.Test.YtfkebbkfmchnaaaRw
set_option linter.unusedVariables false
namespace Go.Proofs.Ytfkebbkfmchnaaa.Bk
open Go.RowKit Go.Maps Go.Proofs.Ytfkebbkfmchnaaa.PBase Go.Proofs.Ytfkebbkfmchnaaa.Cat Go.Proofs.Ytfkebbkfmchnaaa.Heap Go.Proofs.Ytfkebbkfmchnaaa.Ln Go.Proofs.Ytfkebbkfmchnaaa.Lst Go.Proofs.Ytfkebbkfmchnaaa.Mq Go.Proofs.YtfkebbkfmchnaaaW.PrintWords Go.Proofs.YtfkebbkfmchnaaaW.PrintLast Go.Proofs.YtfkebbkfmchnaaaW.PrintMore
theorem bound_calls (W : World) (ag rm : Int) (bd : Nat) (ha : 1 ≤ ag ∧ ag ≤ 10) (hr : 1 ≤ rm ∧ rm ≤ 12) (hb : (bd : Int) = ag * 8 + rm) : Calls Try.prog 10 #[.int .i64 ag, .int .i64 rm] W fun e w' => e = .returned (.int .i64 bd) ∧ Below W.heap.size W w' := by
  have h : turn_Bound.f ag rm = some (bd : Int) := by
    unfold turn_Bound.f mx mn
    rw [hb]
    congr 1
    have e1 : (if ag ≤ 1000 then ag else 1000) = ag := if_pos (by omega)
    have e2 : (if rm ≤ 1000 then rm else 1000) = rm := if_pos (by omega)
    first
      | (rw [e1, e2, if_pos (by omega), if_pos (by omega)])
      | (repeat' split) <;> omega
  refine (turn_Bound.calls ag rm bd W h).mono ?_
  rintro e w' ⟨rfl, hb⟩
  first
    | exact ⟨rfl, hb⟩
    | exact ⟨rfl, hb.below⟩
    | (subst hb; exact ⟨rfl, Below.refl _ _⟩)
/-- What a round of the law starts with. -/
def RS (b : Book) (a r nx ct u cl : Int) : Prop := JF b a r nx ct u ∧ (⟨0, cl, ct⟩ : S77) ∈ b.L
theorem tm8 {a : Int} (h : 0 ≤ a ∧ a ≤ 255) : (wrap64 a).tmod 8 = a % 8 := by
  have e : wrap64 a = a := by unfold wrap64; omega
  rw [e]
  exact Int.tmod_eq_emod_of_nonneg h.1
set_option maxHeartbeats 16000000 in
set_option maxRecDepth 100000 in
theorem fair_walk (W : World) (a00 a01 a1 : Int) (a r cl : Int) (bd : Nat) (A : Option Addr) (c : Nat) (L : List Int) (ha : wrap64 (1 + (wrap64 a00).tmod 8) = a) (hr : wrap64 (1 + (wrap64 a01).tmod 10) = r) (hcl : (wrap64 a1).tmod 8 = cl) (h1 : 1 ≤ a ∧ a ≤ 8) (h2 : 1 ≤ r ∧ r ≤ 10) (h3 : 0 ≤ cl ∧ cl < 8) (hbd : (bd : Int) = a * 8 + r) (hC : Kd.C (Kd.int .u8) W A L.length L) (hc : L.length ≤ c) (hu : ∀ x ∈ L, 0 ≤ x ∧ x < 256) :
    Calls Try.prog 3 #[.agg #[.int .u16 a00, .int .u16 a01], .int .u8 a1, .slice A L.length c] W fun e w' => e = .returned (.bool true) ∧ Below W.heap.size W w' := by
  have HA := Aside0.mk (And.intro ha hr)
  have HC := Aside0.mk (And.intro hC hu)
  have HB := Aside0.mk hbd
  have HL := Aside0.mk hcl
  clear ha hr hC hu hbd hcl
  go_enter Try.func3, Try.ntmps3
  go_upto_region 1 with (fail)
  go_cut [7, 8] (fun v7 v8 wc => v7 = .int .i64 a ∧ v8 = .int .i64 r ∧ Below W.heap.size W wc)
  case first =>
    as_aux_lemma =>
    have hy0 : (W.alloc (.cells #[.int .u16 a00, .int .u16 a01] 23)).cell? ⟨W.heap.size, 0, none⟩ = some (.int .u16 a00) := by simp
    have hy1 : (W.alloc (.cells #[.int .u16 a00, .int .u16 a01] 23)).cell? ⟨W.heap.size, 1, none⟩ = some (.int .u16 a01) := by simp
    go_region_held3 (fun w' => w'.cell? ⟨W.heap.size, 0, none⟩ = some (.int .u16 a00) ∧ w'.cell? ⟨W.heap.size, 1, none⟩ = some (.int .u16 a01)) (go_keep) (fail)
    go_wp2_with (fail)
    go_meet
    exact ⟨congrArg (Value.int .i64) (by rw [i64_w, i64_w]; exact HA.out.1), congrArg (Value.int .i64) (by rw [i64_w, i64_w]; exact HA.out.2), below_drew1 (below_alloc (Below.refl _ _) _)⟩
  case rest =>
    as_aux_lemma =>
    obtain ⟨rfl, rfl, hb0⟩ := hcut
    have hF1 := JF.first a r cl h2.1 h3
    have hcl := HL.out
    go_upto_region 5 with (first
      | (go_at_call 8; refine (bnew_good a r 1 W.heap.size _ hb0.size (by omega) (by omega) (by decide)).mono ?_; rintro e w1 ⟨G, rfl, hb1, h1'⟩; have hS := Aside0.mk (BN.start (below_step hb0 hb1) h1'.out); have had := add_B hS.out.bi 0 cl (by decide) 0 hF1.1 _ (addT_ok hF1.1); clear hb0 hb1 h1')
      | (go_at_call 9; refine had.mono ?_; clear had; rintro e w2 ⟨rfl, hg2⟩))
    have hB2 := Aside0.mk (hS.out.call hg2.out)
    have hR2 : Aside0 (RS (addB (b0 a r 1) 0 cl) a r 1 0 0 cl) := ⟨⟨hF1.2, List.mem_cons_self⟩⟩
    have hk0 : Aside0 (∀ w', Fr (fun k => W.heap.size ≤ k) W w' → ∀ i : Nat, i < L.length → ∃ ad, A = some ad ∧ w'.cell? (ad.add i) = some (.int .u8 (L.getD i 0))) := ⟨fun w' hf i hi => by
      obtain ⟨ad, cs, e, hl, hK, hcc⟩ := Kd.C_get HC.out.1 0 (i : Int) (by omega) (by omega)
      refine ⟨ad, e, ?_⟩
      have hK : cs = [Value.int .u8 (L.getD (i : Int).toNat 0)] := hK
      rw [Int.toNat_natCast] at hK hcc
      have h5 := hcc 0 _ (by rw [hK]; rfl)
      rw [show (Kd.int IntKind.u8).sz = 1 from rfl, Nat.mul_one, Nat.add_zero] at h5
      refine hf.cell h5 ?_
      have := World.block_lt_of_cell? W _ h5
      show ¬ W.heap.size ≤ _
      omega⟩
    clear hS hg2 hF1 hcl
    generalize addB (b0 a r 1) 0 cl = b1 at hB2 hR2
    go_wp2_with (fail)
    go_loopg [10, 11] 2 (fun gg v10 v11 wr => ∃ (u nx : Nat) (ct : Int) (b : Book), v10 = .int .i64 nx ∧ v11 = .int .i64 u ∧ u ≤ 2 ∧ 2 - u ≤ gg ∧ 1 ≤ nx ∧ 0 ≤ ct ∧ ct ≤ 100 * (u : Int) ∧ Aside0 (u < 2 → RS b a r nx ct u cl) ∧ Aside0 (BN W G wr b))
    case atStart => exact ⟨0, 1, 0, b1, rfl, rfl, by omega, by omega, by omega, by omega, by omega, ⟨fun _ => hR2.out⟩, hB2⟩
    case round =>
      obtain ⟨u, nx, ct, b, rfl, rfl, hu2, hgg, hnx, hct0, hct1, hR, hB⟩ := hrel
      clear hB2 hR2
      by_cases hul : u < 2
      · have hul2 : (u : Int) < 2 := by omega
        have hRS := hR.out hul
        have hJ0 := Aside0.mk hRS.1
        have hRc0 : Aside0 (Race a r ⟨0, cl, ct⟩ 0 b.L) := ⟨Race.start hRS.2 h1.1 h3.1⟩
        have hbd := HB.out
        clear hRS hR
        go_wp2_with (fail)
        go_loopg [10, 12, 13] (bd + 1) (fun gg v10 v12 v13 wr => ∃ (f : Bool) (i nx : Nat) (b : Book), v10 = .int .i64 nx ∧ v12 = .bool f ∧ v13 = .int .i64 i ∧ i ≤ bd ∧ bd + 1 - i ≤ gg ∧ 1 ≤ nx ∧ Aside0 (f = false → JF b a r nx (ct + i) u ∧ Race a r ⟨0, cl, ct⟩ i b.L) ∧ Aside0 (f = true → u = 0 → RS b a r nx (ct + i) 1 cl) ∧ Aside0 (BN W G wr b))
        case atStart => exact ⟨false, 0, nx, b, rfl, rfl, rfl, Nat.zero_le _, by omega, hnx, ⟨fun _ => ⟨by simpa using hJ0.out, hRc0.out⟩⟩, ⟨fun h => nomatch h⟩, hB⟩
        case round =>
          obtain ⟨f, i, nx, b, rfl, rfl, rfl, hi, hgg2, hnx, hN, hY, hB⟩ := hrel
          clear hJ0 hRc0
          cases f with
          | true =>
            have hY1 := Aside0.mk (hY.out rfl)
            clear hN hY
            go_wp2_with (fail)
            go_roundg (2 - (u + 1))
            case measure => omega
            case rel => exact ⟨u + 1, nx, ct + i, b, rfl, by go_num, by omega, Nat.le_refl _, hnx, by omega, by omega, ⟨fun hlt => by
              obtain rfl : u = 0 := by omega
              exact hY1.out rfl⟩, hB⟩
          | false =>
            obtain ⟨hJ, hRc⟩ := hN.out rfl
            clear hN hY
            by_cases hib : i < bd
            · have hib2 : (i : Int) < (bd : Int) := by omega
              have hJ := Aside0.mk hJ
              have hRc := Aside0.mk hRc
              have hcx : Aside0 (ct + i ≤ 300) := ⟨by omega⟩
              obtain ⟨cti, hcti⟩ : ∃ z : Int, ct + i = z := ⟨_, rfl⟩
              rw [hcti] at hJ hcx
              have HCT := Aside0.mk hcti
              go_upto_block 4 with (go_at_call 10; refine (bound_calls _ a r bd (by omega) (by omega) hbd).mono ?_; rintro e w3 ⟨rfl, hb3⟩)
              have hB3 := Aside0.mk (hB.out.step hb3)
              clear hb3 hB hcti
              rw [decide_eq_true (show (i : Int) < a * 8 + r by omega)]
              go_cut [10] (fun v10 wx => ∃ (nx : Nat) (b : Book), v10 = .int .i64 nx ∧ 1 ≤ nx ∧ (b.Js.length : Int) = r ∧ Aside0 (JF b a r nx cti u) ∧ Aside0 (Race a r ⟨0, cl, ct⟩ i b.L) ∧ Aside0 (BN W G wx b))
              case first =>
                as_aux_lemma =>
                go_wp2_with (fail)
                go_loopg [10] (r.toNat + 1) (fun gg v10 wr => ∃ (nx : Nat) (b : Book), v10 = .int .i64 nx ∧ 1 ≤ nx ∧ r.toNat + 1 - b.Js.length ≤ gg ∧ Aside0 (JF b a r nx cti u) ∧ Aside0 (Race a r ⟨0, cl, ct⟩ i b.L) ∧ Aside0 (BN W G wr b))
                case atStart => exact ⟨nx, b, rfl, hnx, by omega, hJ, hRc, hB3⟩
                case round =>
                  obtain ⟨nx, b, rfl, hnx, hgg3, hJ, hRc, hB⟩ := hrel
                  clear hB3
                  have hop := open_B hB.out.bi
                  have hle := hB.out.inv.le
                  rw [hJ.out.rm] at hle
                  have hnb := hJ.out.nxe
                  by_cases hfull : (b.Js.length : Int) = r
                  · rw [hfull] at hop
                    go_wp2_with (go_at_call 11; refine hop.mono ?_; clear hop; rintro e w4 ⟨rfl, hb4⟩)
                    go_meet
                    exact ⟨nx, b, rfl, hnx, hfull, hJ, hRc, ⟨hB.out.step hb4⟩⟩
                  · have hlt : (b.Js.length : Int) < r := by omega
                    have hltn := Aside0.mk hlt
                    obtain ⟨ln, hln⟩ : ∃ z : Int, (b.Js.length : Int) = z := ⟨_, rfl⟩
                    rw [hln] at hop hlt
                    go_upto_if 67 with (go_at_call 11; refine hop.mono ?_; clear hop; rintro e w4 ⟨rfl, hb4⟩)
                    have hB4 := Aside0.mk (hB.out.step hb4)
                    clear hb4 hB
                    go_cut [14] (fun v14 wx => ∃ c : Int, v14 = .int .i64 c ∧ 0 ≤ c ∧ c < 8 ∧ w4 = wx)
                    case first =>
                      as_aux_lemma =>
                      by_cases hil : nx < L.length
                      · have hil2 : (nx : Int) < (L.length : Int) := by omega
                        have hil0 : (0 : Int) ≤ (nx : Int) := by omega
                        obtain ⟨ad, e, hcell⟩ := hk0.out w4 hB4.out.fr nx hil
                        subst e
                        have hrange' := HC.out.2 (L.getD nx 0) (by rw [List.getD_eq_getElem?_getD, List.getElem?_eq_getElem hil]; exact List.getElem_mem hil)
                        generalize L.getD nx 0 = hv at hcell hrange'
                        have ht8 := tm8 (a := hv) (by omega)
                        have hrange := Aside0.mk hrange'
                        clear hrange'
                        go_wp2_with (fail)
                        go_meet
                        have := hrange.out
                        refine ⟨_, rfl, ?_, ?_, rfl⟩ <;> first | omega | (rw [ht8]; omega)
                      · have hil2 : ¬ (nx : Int) < (L.length : Int) := by omega
                        go_wp2_with (fail)
                        go_meet
                        exact ⟨0, rfl, by decide, by decide, rfl⟩
                    case rest =>
                      as_aux_lemma =>
                      obtain ⟨c, rfl, hc0, hc1, rfl⟩ := hcut
                      obtain ⟨k1, k2⟩ := hJ.out.add (cl := c) hltn.out ⟨hc0, hc1⟩ (by omega)
                      have had := add_B hB4.out.bi nx c (wf_small (by have := hcx.out; omega)) 0 k1 _ (addT_ok k1)
                      have k3 := Aside0.mk (hJ.out.race_add hB4.out.inv k1 ⟨hc0, hc1⟩ hRc.out h3 ⟨hct0, by show ct ≤ 1000; omega⟩ ⟨by omega, by omega⟩ HCT.out)
                      have k2 := Aside0.mk k2
                      have hnx9 : nx ≤ 400 := by have := hcx.out; omega
                      have k4 : Aside0 ((addB b nx c).Js.length = b.Js.length + 1) := ⟨by show (b.Js ++ [_]).length = _; simp⟩
                      clear k1
                      go_wp2_with (go_at_call 9; refine had.mono ?_; clear had; rintro e w5 ⟨rfl, hg5⟩)
                      go_roundg (r.toNat + 1 - (addB b nx c).Js.length)
                      case measure => have := k4.out; have := hltn.out; omega
                      case rel => exact ⟨nx + 1, _, by go_num, by omega, Nat.le_refl _, ⟨by have := k2.out; exact_mod_cast this⟩, k3, ⟨hB4.out.call hg5.out⟩⟩
              case rest =>
                as_aux_lemma =>
                obtain ⟨nx, b, rfl, hnx, hlen, hJ, hRc, hB⟩ := hcut
                clear hB3
                have hI := hB.out.inv
                have h0 : 0 < b.L.length := List.length_pos_of_mem hRc.out.mem
                obtain ⟨us, hus⟩ : ∃ z, usedOf b (fetchJ b).f0 = z := ⟨_, rfl⟩
                have hft := fetch_yes hB.out.bi 9 h0 (by rw [hJ.out.cte]; have := hcx.out; omega) us hus (cti + 1) (by rw [hJ.out.cte])
                have hls := hJ.out.lease (un := 9)
                obtain ⟨x, hx⟩ : ∃ x, (fetchJ b).f0 = x := ⟨_, rfl⟩
                obtain ⟨q, hq⟩ : ∃ q : Int, cti + 1 = q := ⟨_, rfl⟩
                obtain ⟨t, ht⟩ : ∃ t : Int, us + 1 = t := ⟨_, rfl⟩
                rw [hx, hq, ht] at hft
                rw [hx, hq] at hls
                have hqw : (Lit.int .i64 q).wf = true := wf_small (by have := hcx.out; have := HCT.out; omega)
                have HX := Aside0.mk (And.intro hx (And.intro hq (And.intro ht hus)))
                have hI := Aside0.mk hI
                have h0 := Aside0.mk h0
                have hls := Aside0.mk hls
                clear hx hq ht hus
                go_upto_region 21 with (go_at_call 12; refine hft.mono ?_; clear hft; rintro e w6 ⟨rfl, hg6⟩)
                have hB6 := hB.out.call hg6.out
                generalize hw7 : w6.alloc (.cells #[.int .i64 q, .int .i64 x, .int .i64 0, .int .i64 0, .int .i64 t, .int .u64 9] 33) = w7
                have hB7 : BB W G w6.heap.size (.cells #[.int .i64 q, .int .i64 x, .int .i64 0, .int .i64 0, .int .i64 t, .int .u64 9] 33 (0, 0)) w7 (fetchB b 9) := hB6.box (by rw [← hw7]; exact below_alloc (Below.refl _ _) _) (by rw [← hw7]; exact blk_new _ _) (Nat.le_refl _)
                generalize w6.heap.size = kx at hB7 ⊢
                have z0 := (blk_cell hB7.bx 0).trans rfl
                have z1 := (blk_cell hB7.bx 1).trans rfl
                have hB7 := Aside0.mk hB7
                clear hg6 hB6 hw7 hB
                by_cases hx0 : x = 0
                · subst hx0
                  have hfj := first_is hI.out hRc.out.mem HX.out.1
                  have hus := HX.out.2.2.2
                  rw [HX.out.1, hJ.out.used hI.out] at hus
                  have hfl := fail_yes hB7.out.bi q hqw ⟨q, 0, 9⟩ hls.out
                  have hu2' : usedOf (fetchB b 9) 0 = (u : Int) + 1 := by
                    obtain ⟨_, j, hj, e1, _, _, hk⟩ := hI.out.first h0.out
                    unfold usedOf
                    rw [show (fetchB b 9).Js = setJ b.Js (fetchJ b).f0 2 (usedOf b (fetchJ b).f0 + 1) from rfl, lk_setJ, ← HX.out.1, hk]
                    show (if j.id = (fetchJ b).f0 then (⟨j.id, j.cls, 2, usedOf b (fetchJ b).f0 + 1⟩ : Jb) else j).us = _
                    rw [if_pos e1]
                    show usedOf b (fetchJ b).f0 + 1 = _
                    rw [HX.out.1, hJ.out.used hI.out]
                  unfold failB at hfl
                  rw [show (⟨q, 0, 9⟩ : Gr).j = 0 from rfl, hu2', show (fetchB b 9).tr = 1 from hJ.out.tr] at hfl
                  have HF := Aside0.mk hfj
                  clear hfj hus hu2'
                  by_cases hu0 : u = 0
                  · subst hu0
                    rw [if_neg (by decide), show decide ((1 : Int) < ((0 : Nat) : Int) + 1) = false from rfl] at hfl
                    obtain ⟨j, hj, hji, hjs, hju, hjc, hjf⟩ := hJ.out.rest (un := 9) hI.out h0.out HX.out.1
                    have hjw := Aside0.mk (And.intro hj (And.intro hji (And.intro hjs (And.intro hjc hjf))))
                    clear hj hji hjs hju hjc hjf
                    go_wp2_with (first
                      | (go_at_call 14; refine hfl.mono ?_; clear hfl; rintro e w8 ⟨rfl, hg8⟩; have hB8 := Aside0.mk (hB7.out.call (b' := rested b 9) hg8.out); have hre := rested_yes hB8.out.bi j hjw.out.1 hjw.out.2.2.1; rw [hjw.out.2.1] at hre; clear hg8)
                      | (go_at_call 15; refine hre.mono ?_; clear hre; rintro e w9 ⟨rfl, hg9⟩))
                    go_roundg (bd + 1 - (i + 1))
                    case measure => omega
                    case rel =>
                      have hB9 := hB8.out.call hg9.out
                      have hm9 := hJ.out.wake_mem hB8.out.inv hjw.out.1 hjw.out.2.1 hjw.out.2.2.1
                      have hc9 : j.cls = cl := by rw [hjw.out.2.2.2.1, HF.out]
                      rw [hc9] at hm9
                      refine ⟨true, i + 1, nx, _, rfl, rfl, by go_num, by omega, Nat.le_refl _, hnx, ⟨fun h => nomatch h⟩, ⟨fun _ _ => ?_⟩, ⟨hB9.un⟩⟩
                      have e9 : ct + ((i + 1 : Nat) : Int) = cti + 1 := by have := HCT.out; omega
                      rw [e9]
                      exact ⟨hjw.out.2.2.2.2, hm9⟩
                  · obtain rfl : u = 1 := by omega
                    rw [if_pos (by decide), show decide ((1 : Int) < ((1 : Nat) : Int) + 1) = true from rfl] at hfl
                    go_wp2_with (first
                      | (go_at_call 14; refine hfl.mono ?_; clear hfl; rintro e w8 ⟨rfl, hg8⟩; have hB8 := Aside0.mk (hB7.out.call hg8.out); clear hg8))
                    go_roundg (bd + 1 - (i + 1))
                    case measure => omega
                    case rel => exact ⟨true, i + 1, nx, _, rfl, rfl, by go_num, by omega, Nat.le_refl _, hnx, ⟨fun h => nomatch h⟩, ⟨fun _ h => by omega⟩, ⟨hB8.out.un⟩⟩
                · have hxb : (x == 0) = false := beq_eq_false_iff_ne.2 hx0
                  have han := answer_yes hB7.out.bi q hqw ⟨q, x, 9⟩ hls.out
                  have hJ8 := hJ.out.answer (un := 9) hI.out h0.out (by rw [HX.out.1]; exact hx0)
                  have hR8 := hJ.out.race_take (un := 9) hI.out hRc.out rfl hlen (by rw [HX.out.1]; exact hx0)
                  rw [HX.out.1] at hJ8 hR8
                  have hJ8 := Aside0.mk hJ8
                  have hR8 := Aside0.mk hR8
                  go_wp2_with (go_at_call 13; refine han.mono ?_; clear han; rintro e w8 ⟨rfl, hg8⟩)
                  go_roundg (bd + 1 - (i + 1))
                  case measure => omega
                  case rel =>
                    refine ⟨false, i + 1, nx, _, rfl, rfl, by go_num, by omega, Nat.le_refl _, hnx, ⟨fun _ => ?_⟩, ⟨fun h => nomatch h⟩, ⟨(hB7.out.call hg8.out).un⟩⟩
                    have e9 : ct + ((i + 1 : Nat) : Int) = cti + 1 := by have := HCT.out; omega
                    rw [e9]
                    exact ⟨hJ8.out, by have := hR8.out; exact_mod_cast this⟩
            · exact (hRc.over h1.1 h3 (by omega) (by omega)).elim
      · have hul2 : ¬ (u : Int) < 2 := by omega
        go_wp2_with (go_at_call 16; refine (wakes12 _).mono ?_; rintro e w2 ⟨rfl, hb2⟩)
        go_ret
        exact ⟨rfl, (hB.out.fr.trans (Fr.of_below hb2)).below (Nat.le_refl _) (fun k h => h)⟩
end Go.Proofs.Ytfkebbkfmchnaaa.Bk
