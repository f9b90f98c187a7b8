/- JobsPlays' walk. Conditions: the row read. -/
import Derived.Test.YtfkebbkfmchnaaaRy
import Derived.Test.YtfkebbkfmchnaaaOp
import Derived.OpenShut
set_option linter.unusedVariables false
namespace Go.Proofs.Ytfkebbkfmchnaaa.Bk
open Go.RowKit Go.Proofs.Ytfkebbkfmchnaaa.PBase Go.Proofs.Ytfkebbkfmchnaaa.Heap Go.Proofs.Ytfkebbkfmchnaaa.Ln Go.Proofs.Ytfkebbkfmchnaaa.Lst Go.Proofs.Ytfkebbkfmchnaaa.PStp Go.Proofs.YtfkebbkfmchnaaaW.PrintWords Go.Proofs.YtfkebbkfmchnaaaW.PrintLast Go.Proofs.YtfkebbkfmchnaaaW.PrintMore
attribute [local go_sem high] eqA33 eqA44
/-! ### A book that may not be -/
set_option maxHeartbeats 4000000 in
set_option maxRecDepth 100000 in
theorem bnew_bad3 (ag rm tr : Int) (W : World) (h : mayB ag rm tr = false) : Calls Try.prog 8 #[.int .i64 ag, .int .i64 rm, .int .i64 tr] W fun e w' => e = .returned (.pointer none) ∧ Below W.heap.size W w' := by
  have h := of_decide_eq_false h
  by_cases h1 : (1 ≤ ag ∧ ag ≤ 1000) ∧ 0 ≤ rm ∧ rm ≤ 1000
  · by_cases h2 : tr < 0
    · exact bnew_bad ag rm tr W h1.1 h1.2 h2
    · have h3 : 9 < tr := by omega
      have hq := new_I ag rm W.heap.size W (Nat.le_refl _) h1
      clear h1 h
      go_enter Try.func8, Try.ntmps8
      go_wp2_with (first
        | (go_at_call 33; refine hq.mono ?_; clear hq; rintro e w1 ⟨B, rfl, hb1, hq1⟩))
      go_ret
      exact ⟨rfl, hb1⟩
  · have hq := new_bad ag rm W h1
    clear h1 h
    go_enter Try.func8, Try.ntmps8
    go_wp2_with (first
      | (go_at_call 33; refine hq.mono ?_; clear hq; rintro e w1 ⟨rfl, hb1⟩))
    go_ret
    exact ⟨rfl, hb1⟩
set_option maxHeartbeats 4000000 in
set_option maxRecDepth 100000 in
theorem plays_bad (W : World) (ag rm tr : Int) (A : Option Addr) (c : Nat) (n : Nat) (h : mayB ag rm tr = false) :
    Calls Try.prog 6 #[.agg #[.int .i64 ag, .int .i64 rm, .int .i64 tr], .slice A n c] W fun e w' => e = .returned (.bool true) ∧ Below W.heap.size W w' := by
  have HH := Aside0.mk h
  clear h
  go_enter Try.func6, Try.ntmps6
  go_upto_region 1 with (fail)
  have hb1 : Below W.heap.size W (W.alloc (.cells #[.int .i64 ag, .int .i64 rm, .int .i64 tr] 56)) := below_alloc (Below.refl _ _) _
  have hx1 := blk_new W (.cells #[.int .i64 ag, .int .i64 rm, .int .i64 tr] 56)
  generalize W.alloc (.cells #[.int .i64 ag, .int .i64 rm, .int .i64 tr] 56) = w1 at hb1 hx1 ⊢
  have x0 := (blk_cell hx1 0).trans rfl
  have x1 := (blk_cell hx1 1).trans rfl
  have x2 := (blk_cell hx1 2).trans rfl
  go_upto_region 2 with (go_at_call 8; refine (bnew_bad3 ag rm tr _ HH.out).mono ?_; rintro e w2 ⟨rfl, hb2⟩)
  have hx2 := blk_below hx1 hb2
  have y0 := (blk_cell hx2 0).trans rfl
  have y1 := (blk_cell hx2 1).trans rfl
  have y2 := (blk_cell hx2 2).trans rfl
  clear x0 x1 x2
  go_wp2_with (first
    | (go_at_call 21; refine (rmay_run ag rm tr false HH.out _).mono ?_; rintro e w3 ⟨rfl, hb3⟩)
    | (go_at_call 16; refine (wakes12 _).mono ?_; rintro e w4 ⟨rfl, hb4⟩))
  go_ret
  exact ⟨rfl, below_step (below_step (below_step hb1 hb2) hb3) hb4⟩
/-! ### A book that may be -/
/-- Behind a round. -/
def PTo (N : Nat) (Wb : World) (G R : Nat) (i : Nat) (w : World) : Prop := ∃ b, b.ct ≤ (i : Int) + 1 ∧ PA N (fun _ => False) Wb G R w b b
/-- Ahead of the switch: g is the act's box. -/
structure PAt (N : Nat) (X : Nat → Prop) (Wb : World) (G R g : Nat) (i : Nat) (d0 d1 d2 d3 : Int) (w : World) (b : Book) : Prop where
  px : PX N X (fun k => k = g) Wb G R w b b
  bx : w.heap[g]? = some (.cells #[.int .i64 d0, .int .i64 d1, .int .i64 d2, .int .u64 d3] 51 (0, 0))
  ct : b.ct ≤ (i : Int)
  ii : i < 60
section
variable {N : Nat} {X Y : Nat → Prop} {Wb : World} {G R g i : Nat} {d0 d1 d2 d3 : Int} {w w' w'' : World} {b b1 b2 : Book}
theorem PA.to (h : PA N Y Wb G R w b b) (hc : b.ct ≤ (i : Int) + 1) : PTo N Wb G R i w := by
  obtain ⟨X, h⟩ := h
  exact ⟨b, hc, X, h.drop (fun _ h => h.elim)⟩
theorem PA.step (h : PA N Y Wb G R w b1 b2) (hb : Below w.heap.size w w') : PA N Y Wb G R w' b1 b2 := by
  obtain ⟨X, h⟩ := h
  exact ⟨X, h.step hb⟩
theorem PTo.step (h : PTo N Wb G R i w) (hb : Below w.heap.size w w') : PTo N Wb G R i w' := by
  obtain ⟨b, h1, h2⟩ := h
  exact ⟨b, h1, h2.step hb⟩
theorem PAt.step (h : PAt N X Wb G R g i d0 d1 d2 d3 w b) (hb : Below w.heap.size w w') : PAt N X Wb G R g i d0 d1 d2 d3 w' b := ⟨h.px.step hb, blk_below h.bx hb, h.ct, h.ii⟩
theorem BI.below (h : BI N X w G b) (hb : Below w.heap.size w w') : BI N X w' G b ∧ Fr (KX N X) w w' := ⟨h.step hb, Fr.of_below hb⟩
theorem PX.start (h2 : BI N (fun _ => False) w G b) (h4 : ∃ X, RI N w' w.heap.size X b ∧ (∀ k, X k → k = w.heap.size) ∧ w.heap.size < w'.heap.size) (hb : Below w.heap.size w w') (hf : Fr (fun k => N ≤ k) Wb w) : PA N (fun _ => False) Wb G w.heap.size w' b b := by
  obtain ⟨X, h5, h6, h7⟩ := h4
  exact ⟨X, h5, (h2.more (Y := X) hb (fun k hk => by have := h6 k hk; omega)).sub (fun k hk => hk.elim (fun h => .inr h) (fun h => h.elim)), fun k hk => hk.elim, hf.trans (Fr.of_below hb)⟩
end
theorem rrested_no {N : Nat} {w : World} {R : Nat} {X : Nat → Prop} {b : Book} (h : RI N w R X b) (hI : Inv b) (id : Int) (hn : ∀ j, lk jid b.Js id = some j → j.st ≠ 3) : Calls Try.prog 27 #[ptr R, .int .i64 id] w fun e w' => e = .returned (.bool false) ∧ Below w.heap.size w w' := by
  rcases ho : lk jid b.Js id with _ | j
  · exact rrested_none h hI id ho
  · exact rrested_not h hI id j ho (hn j ho)
set_option maxHeartbeats 20000000 in
set_option maxRecDepth 100000 in
theorem plays_good (W : World) (ag rm tr : Int) (A : Option Addr) (c : Nat) (l : List S51) (h : mayB ag rm tr = true) (hr : Kd.C k51 W A l.length l) (hw : ∀ i, i < l.length → (Lit.int .i64 (rd51 l i).f1).wf = true) :
    Calls Try.prog 6 #[.agg #[.int .i64 ag, .int .i64 rm, .int .i64 tr], .slice A l.length c] W fun e w' => e = .returned (.bool true) ∧ Below W.heap.size W w' := by
  have HH := Aside0.mk h
  have HD := Aside0.mk (of_decide_eq_true h)
  have HR := Aside0.mk hr
  have HW := Aside0.mk hw
  clear h hr hw
  go_enter Try.func6, Try.ntmps6
  go_upto_region 1 with (fail)
  have hb1 : Below W.heap.size W (W.alloc (.cells #[.int .i64 ag, .int .i64 rm, .int .i64 tr] 56)) := below_alloc (Below.refl _ _) _
  have hx1 := blk_new W (.cells #[.int .i64 ag, .int .i64 rm, .int .i64 tr] 56)
  generalize W.alloc (.cells #[.int .i64 ag, .int .i64 rm, .int .i64 tr] 56) = w1 at hb1 hx1 ⊢
  have x0 := (blk_cell hx1 0).trans rfl
  have x1 := (blk_cell hx1 1).trans rfl
  have x2 := (blk_cell hx1 2).trans rfl
  go_upto_region 2 with (go_at_call 8; refine (bnew_good ag rm tr W.heap.size _ hb1.size HD.out.1 HD.out.2.1 HD.out.2.2).mono ?_; rintro e w2 ⟨G, rfl, hb2, h2⟩)
  have hx2 := blk_below hx1 hb2
  have y0 := (blk_cell hx2 0).trans rfl
  have y1 := (blk_cell hx2 1).trans rfl
  have y2 := (blk_cell hx2 2).trans rfl
  clear x0 x1 x2
  go_upto_region 6 with (go_at_call 21; refine (rmay_run ag rm tr true HH.out _).mono ?_; rintro e w3 ⟨rfl, hb3⟩)
  have hx3 := blk_below hx2 hb3
  have x0 := (blk_cell hx3 0).trans rfl
  have x1 := (blk_cell hx3 1).trans rfl
  have x2 := (blk_cell hx3 2).trans rfl
  clear y0 y1 y2
  have hb13 := below_step (below_step hb1 hb2) hb3
  have h3 := Aside0.mk (h2.out.step hb3)
  go_upto_block 0 with (go_at_call 22; refine (rnew12 W.heap.size _ hb13.size ag rm tr).mono ?_; rintro e w4 ⟨rfl, hb4, h4⟩)
  have hP0 := Aside0.mk (PX.start h3.out h4.out hb4 (Fr.of_below hb13 : Fr (fun k => W.heap.size ≤ k) W w3))
  generalize w3.heap.size = R at hP0 ⊢
  clear hx1 hx2 hx3 x0 x1 x2 hb1 hb2 hb3 hb13 hb4 h4 h3 h2
  go_cut [7] (fun v7 wc => ∃ b : Book, Aside0 (PA W.heap.size (fun _ => False) W G R wc b b))
  case first =>
    as_aux_lemma =>
    go_wp2_with (fail)
    go_loopg [7] 60 (fun gg v7 wr => ∃ (i : Nat) (b : Book), v7 = .int .i64 i ∧ i ≤ 60 ∧ i ≤ l.length ∧ 60 - i ≤ gg ∧ b.ct ≤ (i : Int) ∧ Aside0 (PA W.heap.size (fun _ => False) W G R wr b b))
    case atStart => exact ⟨0, _, rfl, by omega, by omega, by omega, Int.le_refl _, hP0⟩
    case round =>
      obtain ⟨i, b, rfl, hi1, hi2, hgg, hct, hP⟩ := hrel
      clear hP0
      by_cases hi : i < l.length ∧ i < 60
      · have hj1 : (i : Int) < (l.length : Int) := by omega
        have hj2 : (i : Int) < 60 := by omega
        have hj0 : (0 : Int) ≤ (i : Int) := by omega
        obtain ⟨X, hPX⟩ := hP.out
        obtain ⟨ad, e1, x0, x1, x2, x3⟩ := at_T51 (show Kd.C k51 wr A l.length l from Kd.C_below HR.out (hPX.fr.below (Nat.le_refl _) (fun _ h => h))) i hj1
        subst e1
        have hdw := HW.out i hi.1
        generalize rd51 l i = act at x0 x1 x2 x3 hdw
        obtain ⟨d0, d1, d2, d3⟩ := act
        have hdw : (Lit.int .i64 d1).wf = true := hdw
        obtain ⟨d, hd0⟩ : ∃ z, md d0 9 = z := ⟨_, rfl⟩
        have hdr := md_in d0 (show (1 : Int) ≤ 9 by decide)
        rw [hd0] at hdr
        have hmd := Aside0.mk hd0
        have hPX := Aside0.mk hPX
        clear hd0 hP
        go_upto_block 2 with (go_at_call 19; refine (mod_calls d0 9 d _ (by decide) hmd.out).mono ?_; rintro e w5 ⟨rfl, hb5⟩)
        have hb6 := below_step (below_alloc (Below.refl wr.heap.size wr) (.cells #[.int .i64 d0, .int .i64 d1, .int .i64 d2, .int .u64 d3] 51)) hb5
        have hbx := blk_below (blk_new wr (.cells #[.int .i64 d0, .int .i64 d1, .int .i64 d2, .int .u64 d3] 51)) hb5
        have hA0 : PAt W.heap.size X W G R wr.heap.size i d0 d1 d2 d3 w5 b := ⟨(hPX.out.more (Z := fun k => k = wr.heap.size) hb6 (fun k e => by rw [e]; exact ⟨Nat.le_refl _, blk_lt hbx⟩)).drop (fun k e => .inr e), hbx, hct, hi.2⟩
        have hA := Aside0.mk hA0
        generalize wr.heap.size = g at hA ⊢
        clear hb5 hb6 hbx hPX x0 x1 x2 x3 hA0 hct
        go_cut [] (fun wx => Aside0 (PTo W.heap.size W G R i wx))
        case first =>
          as_aux_lemma =>
          have hk0 := hdr.1
          have hk1 := hdr.2
          have hI := Aside0.mk hA.out.px.inv
          have hct : b.ct ≤ 10000 := by have := hA.out.ct; have := hi.2; omega
          clear hdr hmd
          by_cases c3 : d < 3
          · have hA5 := Aside0.mk (hA.out.step (below_drew1 (Below.refl w5.heap.size w5)))
            obtain ⟨ee, hee⟩ : ∃ ee, addE b d1 d2 = ee := ⟨_, rfl⟩
            have hee := Aside0.mk hee
            have hctT : (addT b d1 d2).ct = b.ct := by unfold addT; split <;> rfl
            have hctT := Aside0.mk hctT
            rcases (show d = 0 ∨ d = 1 ∨ d = 2 by omega) with rfl | rfl | rfl <;>
            (go_wp2
             go_region_held3 (fun w' => w'.cell? ⟨g, 1, none⟩ = some (.int .i64 d1) ∧ w'.cell? ⟨g, 2, none⟩ = some (.int .i64 d2)) (first | exact ⟨(blk_cell hA5.out.bx 1).trans rfl, (blk_cell hA5.out.bx 2).trans rfl⟩ | exact ⟨(blk_cell hx6.out 1).trans rfl, (blk_cell hx6.out 2).trans rfl⟩ | exact ⟨(blk_cell hx7.out 1).trans rfl, (blk_cell hx7.out 2).trans rfl⟩) (first
               | (go_at_call 9; refine (add_B hA5.out.px.bi d1 d2 hdw ee hee.out _ rfl).mono ?_; rintro e w6 ⟨rfl, h6⟩; have hp6 := Aside0.mk (hA5.out.px.ours h6.out); have hx6 := Aside0.mk (hA5.out.px.box1 h6.out.2 rfl hA5.out.bx))
               | (go_at_call 23; refine (radd hp6.out.ri hI.out d1 d2 ee hee.out _ rfl).mono ?_; rintro e w7 ⟨rfl, h7⟩; have hx7 := Aside0.mk (hp6.out.box2 (h7.out) rfl hx6.out)))
             go_wp2_with (fail)
             go_meet
             exact ⟨(hp6.out.ref (h7.out)).to (by have := hA.out.ct; have := hctT.out; omega)⟩)
          · by_cases c5 : d < 5
            · have y3a := (blk_cell hA.out.bx 3).trans rfl
              rcases Nat.eq_zero_or_pos b.L.length with e0 | e0
              · have h0 := List.eq_nil_of_length_eq_zero e0
                have hft := fetch_no hA.out.px.bi d3 h0
                have h0 := Aside0.mk h0
                rcases (show d = 3 ∨ d = 4 by omega) with rfl | rfl <;>
                (
                 (go_upto_region 22 with (go_at_call 12; refine hft.mono ?_; rintro e w6 ⟨rfl, h6⟩)
                  obtain ⟨O, hO⟩ : ∃ O : Obj, Obj.cells #[.int .i64 0, .int .i64 0, .int .i64 0, .int .i64 0, .int .i64 0, .int .u64 0] 33 = O := ⟨_, rfl⟩
                  rw [hO]
                  have hp6 := hA.out.px.ours h6.out
                  have hx6 := hA.out.px.box1 h6.out.2 rfl hA.out.bx
                  have hb7 : Below w6.heap.size w6 (w6.alloc O) := below_alloc (Below.refl _ _) _
                  have hO7 := blk_new w6 O
                  have hp7 := Aside0.mk (hp6.more (Z := fun k => k = w6.heap.size) hb7 (fun k e => by rw [e]; exact ⟨Nat.le_refl _, blk_lt hO7⟩))
                  have hx7 := blk_below hx6 hb7
                  have HO7 := Aside0.mk hO7
                  generalize w6.alloc O = w7 at hp7 hx7 HO7 ⊢
                  generalize w6.heap.size = g6 at hp7 HO7 ⊢
                  have y3 := (blk_cell hx7 3).trans rfl
                  have hrf := rfetch_no hp7.out.ri hI.out d3 h0.out
                  subst hO
                  clear hp6 hx6 hb7 hO7 hx7 y3a
                  go_upto_region 23 with (go_at_call 24; refine hrf.mono ?_; clear hrf; rintro e w8 ⟨rfl, h8⟩)
                  obtain ⟨O2, hO2⟩ : ∃ O : Obj, Obj.cells #[.int .i64 0, .int .i64 0, .int .i64 0, .int .i64 0, .int .i64 0, .int .u64 0] 33 = O := ⟨_, rfl⟩
                  rw [hO2]
                  have hO8 := hp7.out.box2 h8.out (.inr rfl) HO7.out
                  have hp8 := (hp7.out.ref h8.out).to (i := i) (by have := hA.out.ct; show b.ct ≤ _; omega)
                  have hb9 : Below w8.heap.size w8 (w8.alloc O2) := below_alloc (Below.refl _ _) _
                  have hTo := Aside0.mk (hp8.step hb9)
                  have hx9 := blk_below hO8 hb9
                  have hy9 := blk_new w8 O2
                  generalize w8.alloc O2 = w9 at hTo hx9 hy9 ⊢
                  generalize w8.heap.size = g8 at hy9 ⊢
                  subst hO2
                  have x0 := (blk_cell hx9 0).trans rfl
                  have x1 := (blk_cell hx9 1).trans rfl
                  have x2 := (blk_cell hx9 2).trans rfl
                  have x3 := (blk_cell hx9 3).trans rfl
                  have x4 := (blk_cell hx9 4).trans rfl
                  have x5 := (blk_cell hx9 5).trans rfl
                  have y0 := (blk_cell hy9 0).trans rfl
                  have y1 := (blk_cell hy9 1).trans rfl
                  have y2 := (blk_cell hy9 2).trans rfl
                  have y3 := (blk_cell hy9 3).trans rfl
                  have y4 := (blk_cell hy9 4).trans rfl
                  have y5 := (blk_cell hy9 5).trans rfl
                  clear hO8 hp8 hb9 hx9 hy9
                  go_wp2_with (fail)
                  go_meet
                  exact hTo))
              · obtain ⟨us, hus⟩ : ∃ us, usedOf b (fetchJ b).f0 = us := ⟨_, rfl⟩
                obtain ⟨c1, hc1⟩ : ∃ c1, b.ct + 1 = c1 := ⟨_, rfl⟩
                obtain ⟨xj, hxj⟩ : ∃ xj, (fetchJ b).f0 = xj := ⟨_, rfl⟩
                have hft := fetch_yes hA.out.px.bi d3 e0 (by omega) us hus c1 hc1
                rw [hxj] at hft
                have HU := Aside0.mk (And.intro hus (And.intro hc1 hxj))
                clear hus hc1 hxj
                rcases (show d = 3 ∨ d = 4 by omega) with rfl | rfl <;>
                (
                 (go_upto_region 22 with (go_at_call 12; refine hft.mono ?_; rintro e w6 ⟨rfl, h6⟩)
                  obtain ⟨O, hO⟩ : ∃ O : Obj, Obj.cells #[.int .i64 c1, .int .i64 xj, .int .i64 0, .int .i64 0, .int .i64 (us + 1), .int .u64 d3] 33 = O := ⟨_, rfl⟩
                  rw [hO]
                  have hp6 := hA.out.px.ours h6.out
                  have hx6 := hA.out.px.box1 h6.out.2 rfl hA.out.bx
                  have hb7 : Below w6.heap.size w6 (w6.alloc O) := below_alloc (Below.refl _ _) _
                  have hO7 := blk_new w6 O
                  have hp7 := Aside0.mk (hp6.more (Z := fun k => k = w6.heap.size) hb7 (fun k e => by rw [e]; exact ⟨Nat.le_refl _, blk_lt hO7⟩))
                  have hx7 := blk_below hx6 hb7
                  have HO7 := Aside0.mk hO7
                  generalize w6.alloc O = w7 at hp7 hx7 HO7 ⊢
                  generalize w6.heap.size = g6 at hp7 HO7 ⊢
                  have y3 := (blk_cell hx7 3).trans rfl
                  have hrf := (show Calls Try.prog 24 #[ptr R, .int .u64 d3] w7 (fun e w' => e = .returned (.tuple #[lv c1 xj (us + 1) d3, .int .i64 0]) ∧ Aside0 (RIGo W.heap.size w7 R _ w' (fetchB b d3))) from by have h := rfetch_yes hp7.out.ri hI.out d3 e0 hct us HU.out.1 c1 HU.out.2.1; rw [HU.out.2.2] at h; exact h)
                  subst hO
                  clear hp6 hx6 hb7 hO7 hx7 y3a
                  go_upto_region 23 with (go_at_call 24; refine hrf.mono ?_; clear hrf; rintro e w8 ⟨rfl, h8⟩)
                  obtain ⟨O2, hO2⟩ : ∃ O : Obj, Obj.cells #[.int .i64 c1, .int .i64 xj, .int .i64 0, .int .i64 0, .int .i64 (us + 1), .int .u64 d3] 33 = O := ⟨_, rfl⟩
                  rw [hO2]
                  have hO8 := hp7.out.box2 h8.out (.inr rfl) HO7.out
                  have hp8 := (hp7.out.ref h8.out).to (i := i) (by have := hA.out.ct; show b.ct + 1 ≤ _; omega)
                  have hb9 : Below w8.heap.size w8 (w8.alloc O2) := below_alloc (Below.refl _ _) _
                  have hTo := Aside0.mk (hp8.step hb9)
                  have hx9 := blk_below hO8 hb9
                  have hy9 := blk_new w8 O2
                  generalize w8.alloc O2 = w9 at hTo hx9 hy9 ⊢
                  generalize w8.heap.size = g8 at hy9 ⊢
                  subst hO2
                  have x0 := (blk_cell hx9 0).trans rfl
                  have x1 := (blk_cell hx9 1).trans rfl
                  have x2 := (blk_cell hx9 2).trans rfl
                  have x3 := (blk_cell hx9 3).trans rfl
                  have x4 := (blk_cell hx9 4).trans rfl
                  have x5 := (blk_cell hx9 5).trans rfl
                  have y0 := (blk_cell hy9 0).trans rfl
                  have y1 := (blk_cell hy9 1).trans rfl
                  have y2 := (blk_cell hy9 2).trans rfl
                  have y3 := (blk_cell hy9 3).trans rfl
                  have y4 := (blk_cell hy9 4).trans rfl
                  have y5 := (blk_cell hy9 5).trans rfl
                  clear hO8 hp8 hb9 hx9 hy9
                  go_wp2_with (fail)
                  go_meet
                  exact hTo))
            · have y1a := (blk_cell hA.out.bx 1).trans rfl
              rcases (show d = 5 ∨ d = 6 ∨ d = 7 ∨ d = 8 by omega) with rfl | rfl | rfl | rfl
              · rcases hg : lk gno b.Ls d1 with _ | gr
                · have hg := Aside0.mk hg
                  go_upto_region 27 with (go_at_call 13; refine (answer_no hA.out.px.bi d1 hdw hg.out).mono ?_; rintro e w6 ⟨rfl, h6⟩)
                  have hp6 := Aside0.mk (hA.out.px.ours (hA.out.px.bi.below h6))
                  have hx6 := blk_below hA.out.bx h6
                  have y1 := (blk_cell hx6 1).trans rfl
                  clear hx6 y1a
                  go_wp2_with (go_at_call 25; refine (ranswer_no hp6.out.ri hI.out hct d1 hg.out).mono ?_; rintro e w7 ⟨rfl, h7⟩)
                  go_meet
                  exact ⟨(hp6.out.ref h7.out).to (by have := hA.out.ct; show b.ct ≤ _; omega)⟩
                · have hg := Aside0.mk hg
                  go_upto_region 27 with (go_at_call 13; refine (answer_yes hA.out.px.bi d1 hdw gr hg.out).mono ?_; rintro e w6 ⟨rfl, h6⟩)
                  have hp6 := Aside0.mk (hA.out.px.ours h6.out)
                  have hx6 := hA.out.px.box1 h6.out.2 rfl hA.out.bx
                  have y1 := (blk_cell hx6 1).trans rfl
                  clear hx6 y1a
                  go_wp2_with (go_at_call 25; refine (ranswer_yes hp6.out.ri hI.out hct d1 gr hg.out).mono ?_; rintro e w7 ⟨rfl, h7⟩)
                  go_meet
                  exact ⟨(hp6.out.ref h7.out).to (by have := hA.out.ct; show b.ct ≤ _; omega)⟩
              · rcases hg : lk gno b.Ls d1 with _ | gr
                · have hg := Aside0.mk hg
                  go_upto_region 32 with (go_at_call 14; refine (fail_no hA.out.px.bi d1 hdw hg.out).mono ?_; rintro e w6 ⟨rfl, h6⟩)
                  have hp6 := Aside0.mk (hA.out.px.ours (hA.out.px.bi.below h6))
                  have hx6 := blk_below hA.out.bx h6
                  have y1 := (blk_cell hx6 1).trans rfl
                  clear hx6 y1a
                  go_wp2_with (go_at_call 26; refine (rfail_no hp6.out.ri hI.out hct d1 hg.out).mono ?_; rintro e w7 ⟨rfl, h7⟩)
                  go_meet
                  exact ⟨(hp6.out.ref h7.out).to (by have := hA.out.ct; show b.ct ≤ _; omega)⟩
                · have hfy := fail_yes hA.out.px.bi d1 hdw gr hg
                  have hg := Aside0.mk hg
                  by_cases hd : b.tr < usedOf b gr.j
                  · rw [show decide (b.tr < usedOf b gr.j) = true from decide_eq_true hd, show failB b gr = goneB b gr.j from if_pos hd] at hfy
                    have hd := Aside0.mk hd
                    go_upto_region 32 with (go_at_call 14; refine (hfy).mono ?_; rintro e w6 ⟨rfl, h6⟩)
                    have hp6 := Aside0.mk (hA.out.px.ours h6.out)
                    have hx6 := hA.out.px.box1 h6.out.2 rfl hA.out.bx
                    have y1 := (blk_cell hx6 1).trans rfl
                    clear hx6 y1a
                    go_wp2_with (go_at_call 26; refine (rfail_dead hp6.out.ri hI.out hct d1 gr hg.out hd.out).mono ?_; rintro e w7 ⟨rfl, h7⟩)
                    go_meet
                    exact ⟨(hp6.out.ref h7.out).to (by have := hA.out.ct; show b.ct ≤ _; omega)⟩
                  · rw [show decide (b.tr < usedOf b gr.j) = false from decide_eq_false hd, show failB b gr = restB b gr.j (usedOf b gr.j) from if_neg hd] at hfy
                    have hd := Aside0.mk hd
                    go_upto_region 32 with (go_at_call 14; refine (hfy).mono ?_; rintro e w6 ⟨rfl, h6⟩)
                    have hp6 := Aside0.mk (hA.out.px.ours h6.out)
                    have hx6 := hA.out.px.box1 h6.out.2 rfl hA.out.bx
                    have y1 := (blk_cell hx6 1).trans rfl
                    clear hx6 y1a
                    have hrf := rfail_rest hp6.out.ri hI.out hct d1 gr hg.out (by have := hd.out; omega)
                    go_wp2_with (go_at_call 26; refine hrf.mono ?_; rintro e w7 ⟨rfl, h7⟩)
                    go_meet
                    exact ⟨(hp6.out.ref h7.out).to (by have := hA.out.ct; show b.ct ≤ _; omega)⟩
              · clear y1a
                have hA5 := Aside0.mk (hA.out.step (below_drew1 (Below.refl w5.heap.size w5)))
                by_cases hj : ∃ j, lk jid b.Js d1 = some j ∧ j.st = 3
                · obtain ⟨j, hj, hs⟩ := hj
                  have hji : j.id = d1 := (lk_mem hj).2
                  have hjm := (lk_mem hj).1
                  have hy := rested_yes hA5.out.px.bi j hjm hs
                  rw [hji] at hy
                  have HJ := Aside0.mk (And.intro hjm (And.intro hs hji))
                  clear hj hs hji hjm
                  (go_wp2
                   go_region_held3 (fun w' => w'.cell? ⟨g, 1, none⟩ = some (.int .i64 d1)) (first | exact (blk_cell hA5.out.bx 1).trans rfl | exact (blk_cell hx6.out 1).trans rfl | exact (blk_cell hx7.out 1).trans rfl) (first
                     | (go_at_call 15; refine (hy).mono ?_; rintro e w6 ⟨rfl, h6⟩; have hp6 := Aside0.mk (hA5.out.px.ours h6.out); have hx6 := Aside0.mk (hA5.out.px.box1 h6.out.2 rfl hA5.out.bx))
                     | (go_at_call 27; refine ((show Calls Try.prog 27 #[ptr R, .int .i64 d1] _ (fun e w' => e = .returned (.bool true) ∧ Aside0 (RIGo W.heap.size _ R _ w' (wakeB b j))) from by have h := rrested_yes hp6.out.ri hI.out j HJ.out.1 HJ.out.2.1; rw [HJ.out.2.2] at h; exact h)).mono ?_; rintro e w7 ⟨rfl, h7⟩; have hx7 := Aside0.mk (hp6.out.box2 (h7.out) rfl hx6.out)))
                   go_wp2_with (fail)
                   go_meet
                   exact ⟨(hp6.out.ref (h7.out)).to (by have := hA.out.ct; show b.ct ≤ _; omega)⟩)
                · have hn : ∀ j, lk jid b.Js d1 = some j → j.st ≠ 3 := fun j h1 h2 => hj ⟨j, h1, h2⟩
                  have hn := Aside0.mk hn
                  clear hj
                  (go_wp2
                   go_region_held3 (fun w' => w'.cell? ⟨g, 1, none⟩ = some (.int .i64 d1)) (first | exact (blk_cell hA5.out.bx 1).trans rfl | exact (blk_cell hx6.out 1).trans rfl | exact (blk_cell hx7.out 1).trans rfl) (first
                     | (go_at_call 15; refine (rested_no hA5.out.px.bi d1 hdw hn.out).mono ?_; rintro e w6 ⟨rfl, h6⟩; have hp6 := Aside0.mk (hA5.out.px.ours (hA5.out.px.bi.below h6)); have hx6 := Aside0.mk (blk_below hA5.out.bx h6))
                     | (go_at_call 27; refine (rrested_no hp6.out.ri hI.out d1 hn.out).mono ?_; rintro e w7 ⟨rfl, h7⟩; have hx7 := Aside0.mk (hp6.out.box2 (hp6.out.ri.stay h7) rfl hx6.out)))
                   go_wp2_with (fail)
                   go_meet
                   exact ⟨(hp6.out.ref (hp6.out.ri.stay h7)).to (by have := hA.out.ct; show b.ct ≤ _; omega)⟩)
              · clear y1a
                have hA5 := Aside0.mk (hA.out.step (below_drew1 (Below.refl w5.heap.size w5)))
                by_cases hin : d1 ∈ b.Js.map jid
                · have hin := Aside0.mk hin
                  (go_wp2
                   go_region_held3 (fun w' => w'.cell? ⟨g, 1, none⟩ = some (.int .i64 d1)) (first | exact (blk_cell hA5.out.bx 1).trans rfl | exact (blk_cell hx6.out 1).trans rfl | exact (blk_cell hx7.out 1).trans rfl) (first
                     | (go_at_call 17; refine (bdrop_yes hA5.out.px.bi d1 hdw hin.out (by omega)).mono ?_; rintro e w6 ⟨rfl, h6⟩; have hp6 := Aside0.mk (hA5.out.px.ours h6.out); have hx6 := Aside0.mk (hA5.out.px.box1 h6.out.2 rfl hA5.out.bx))
                     | (go_at_call 28; refine (rbdrop hp6.out.ri hI.out hct d1 hin.out).mono ?_; rintro e w7 ⟨rfl, h7⟩; have hx7 := Aside0.mk (hp6.out.box2 (h7.out) rfl hx6.out)))
                   go_wp2_with (fail)
                   go_meet
                   exact ⟨(hp6.out.ref (h7.out)).to (by have := hA.out.ct; show b.ct ≤ _; omega)⟩)
                · have hin := Aside0.mk hin
                  (go_wp2
                   go_region_held3 (fun w' => w'.cell? ⟨g, 1, none⟩ = some (.int .i64 d1)) (first | exact (blk_cell hA5.out.bx 1).trans rfl | exact (blk_cell hx6.out 1).trans rfl | exact (blk_cell hx7.out 1).trans rfl) (first
                     | (go_at_call 17; refine (bdrop_no hA5.out.px.bi d1 hdw hin.out).mono ?_; rintro e w6 ⟨rfl, h6⟩; have hp6 := Aside0.mk (hA5.out.px.ours (hA5.out.px.bi.below h6)); have hx6 := Aside0.mk (blk_below hA5.out.bx h6))
                     | (go_at_call 28; refine (rbdrop_no hp6.out.ri hI.out d1 hin.out).mono ?_; rintro e w7 ⟨rfl, h7⟩; have hx7 := Aside0.mk (hp6.out.box2 (hp6.out.ri.stay h7) rfl hx6.out)))
                   go_wp2_with (fail)
                   go_meet
                   exact ⟨(hp6.out.ref (hp6.out.ri.stay h7)).to (by have := hA.out.ct; show b.ct ≤ _; omega)⟩)
        case rest =>
          as_aux_lemma =>
          obtain ⟨b1, hc1, X1, hP1⟩ := hcut.out
          have hsm := same_calls hP1 (by have := hi.2; omega)
          clear hcut hA hP1
          go_wp2_with (go_at_call 29; refine hsm.mono ?_; clear hsm; rintro e w9 ⟨rfl, h9⟩)
          go_roundg (60 - (i + 1))
          case measure => omega
          case rel => exact ⟨i + 1, b1, by go_num, by omega, by omega, Nat.le_refl _, by omega, ⟨⟨X1, h9.out⟩⟩⟩
      · by_cases hj1 : (i : Int) < (l.length : Int)
        · have hj2 : ¬ (i : Int) < 60 := by omega
          go_wp2_with (fail)
          go_meet
          exact ⟨b, hP⟩
        · go_wp2_with (fail)
          go_meet
          exact ⟨b, hP⟩
  case rest =>
    as_aux_lemma =>
    obtain ⟨b, hP⟩ := hcut
    clear hP0
    obtain ⟨X, hPX⟩ := hP.out
    have hI := hPX.inv
    have hrm := hI.rm
    have hle := hI.le
    obtain ⟨vq, vl, vj, LQ, hR, _, _, hX⟩ := hPX.ri.ex
    have hjl : b.Js.length ≤ 1000 := by omega
    rcases ho : lk jid b.Js (-7) with _ | j
    · have hst := state_B hPX.bi (-7) (by decide) none ho 0 0 rfl rfl false rfl
      have HF := Aside0.mk (And.intro (pos_none ho) hjl)
      have hPX := Aside0.mk hPX
      clear hI hrm hle hR hX ho hjl hP
      go_upto_region 41 with (go_at_call 18; refine hst.mono ?_; clear hst; rintro e w1 ⟨rfl, hb1⟩)
      have hb2 : Below w1.heap.size w1 (w1.alloc (.cells #[.int .i64 0, .int .i64 0] 44)) := below_alloc (Below.refl _ _) _
      have hx2 := blk_new w1 (.cells #[.int .i64 0, .int .i64 0] 44)
      have hP2 := Aside0.mk (hPX.out.step (below_step hb1 hb2))
      generalize w1.alloc (.cells #[.int .i64 0, .int .i64 0] 44) = w2 at hP2 hx2 ⊢
      generalize w1.heap.size = gx at hx2 ⊢
      obtain ⟨vq, vl, vj, LQ, hR, _, _, hX⟩ := hP2.out.ri.ex
      have hfi := rfind12 hR (-7) (by have := HF.out.2; omega) (-1) HF.out.1
      clear hR hX hb1 hb2
      go_wp2_with (first
        | (go_at_call 30; refine hfi.mono ?_; clear hfi; rintro e w3 ⟨rfl, hb3⟩; have hx3 := blk_below hx2 hb3; have x0 := (blk_cell hx3 0).trans rfl; have x1 := (blk_cell hx3 1).trans rfl)
        | (go_at_call 16; refine (wakes12 _).mono ?_; rintro e w4 ⟨rfl, hb4⟩))
      go_ret
      exact ⟨rfl, ((hP2.out.fr.trans (Fr.of_below hb3)).trans (Fr.of_below hb4)).below (Nat.le_refl _) (fun k h => h)⟩
    · obtain ⟨k, hk, hpk, hkj⟩ := pos_some ho
      have hst := state_B hPX.bi (-7) (by decide) (some j) ho j.st j.us rfl rfl true rfl
      have HF := Aside0.mk (And.intro hpk hjl)
      have hPX := Aside0.mk hPX
      have hk0 : (0 : Int) ≤ (k : Int) := by omega
      clear hI hrm hle hR hX ho hjl hP hk hpk hkj
      go_upto_region 41 with (go_at_call 18; refine hst.mono ?_; clear hst; rintro e w1 ⟨rfl, hb1⟩)
      have hb2 : Below w1.heap.size w1 (w1.alloc (.cells #[.int .i64 j.st, .int .i64 j.us] 44)) := below_alloc (Below.refl _ _) _
      have hP2 := Aside0.mk (hPX.out.step (below_step hb1 hb2))
      generalize w1.alloc (.cells #[.int .i64 j.st, .int .i64 j.us] 44) = w2 at hP2 ⊢
      generalize w1.heap.size = gx
      obtain ⟨vq, vl, vj, LQ, hR, _, _, hX⟩ := hP2.out.ri.ex
      have hfi := rfind12 hR (-7) (by have := HF.out.2; omega) k HF.out.1
      clear hR hX hb1 hb2
      go_wp2_with (first
        | (go_at_call 30; refine hfi.mono ?_; clear hfi; rintro e w3 ⟨rfl, hb3⟩)
        | (go_at_call 16; refine (wakes12 _).mono ?_; rintro e w4 ⟨rfl, hb4⟩))
      go_ret
      exact ⟨rfl, ((hP2.out.fr.trans (Fr.of_below hb3)).trans (Fr.of_below hb4)).below (Nat.le_refl _) (fun k h => h)⟩
end Go.Proofs.Ytfkebbkfmchnaaa.Bk
