/- Both books side by side; 'same' as a call: true. Conditions: both books lie in memory as told, of the same plain book. -/
import Derived.Test.YtfkebbkfmchnaaaGf
import Derived.Deep.DeepCutAuto
import Derived.Deep.CutBlock
set_option linter.unusedVariables false
namespace Go.Proofs.Ytfkebbkfmchnaaa.Bk
open Go.RowKit Go.Proofs.Ytfkebbkfmchnaaa.PBase Go.Proofs.Ytfkebbkfmchnaaa.Heap Go.Proofs.Ytfkebbkfmchnaaa.Ln Go.Proofs.Ytfkebbkfmchnaaa.Lst Go.Proofs.Ytfkebbkfmchnaaa.PStp Go.Proofs.YtfkebbkfmchnaaaW.PrintWords Go.Proofs.YtfkebbkfmchnaaaW.PrintLast Go.Proofs.YtfkebbkfmchnaaaW.PrintMore
attribute [local go_sem high] eqA33 eqA44
theorem QI.swap {N : Nat} {X X1 : Nat → Prop} {W W1 : World} {B : Nat} {ag rm ct : Int} {L : List S77} (h : QI N X W B ag rm ct L) (hf : Fr X W W1) (hX : ∀ k, X1 k → (X k ∨ W.heap.size ≤ k) ∧ k < W1.heap.size) : QI N X1 W1 B ag rm ct L := by
  obtain ⟨⟨v, h1, h2⟩, h3⟩ := h
  refine ⟨⟨v, h1.keep hf h2, fun k hk e => ?_⟩, fun k hk => (hX k hk).2⟩
  rcases (hX k hk).1 with hk | hk
  · exact h2 k hk e
  · have := qf_lt h1 k e
    omega
theorem BI.swap {N : Nat} {X X1 : Nat → Prop} {W W1 : World} {G : Nat} {b : Book} (h : BI N X W G b) (hf : Fr X W W1) (hX : ∀ k, X1 k → (X k ∨ W.heap.size ≤ k) ∧ k < W1.heap.size) : BI N X1 W1 G b := by
  obtain ⟨⟨B, T, mj, ma, mo, h1⟩, h2⟩ := h
  have h3 := h1.keep hf
  refine ⟨⟨B, T, mj, ma, mo, ⟨h3.g, h3.t, QI.swap h1.q (hf.weak (fun k hk => .inl hk)) (fun k hk => ?_), h3.j, fun k hk => ⟨(h3.lo k hk).1, fun e => ?_⟩, h3.n1, h3.n2, h3.n3⟩⟩, h2⟩
  · rcases hk with hk | hk
    · exact ⟨(hX k hk).1.imp (fun h => .inl h) (fun h => h), (hX k hk).2⟩
    · exact ⟨.inl (.inr hk), h3.mem k hk⟩
  · rcases (hX k e).1 with h4 | h4
    · exact (h1.lo k hk).2 h4
    · have := h1.mem k hk
      omega
theorem RI.lt {N : Nat} {w : World} {R : Nat} {X : Nat → Prop} {b : Book} (h : RI N w R X b) (k : Nat) (hk : X k) : N ≤ k ∧ k < w.heap.size := by
  obtain ⟨vq, vl, vj, LQ, hR, _, _, rfl⟩ := h.ex
  exact hR.lt3 k hk
theorem RI.step {N : Nat} {w w' : World} {R : Nat} {X : Nat → Prop} {b : Book} (h : RI N w R X b) (hb : Below w.heap.size w w') : RI N w' R X b := h.away (Fr.of_below (F := fun _ => False) hb) (fun _ _ h => h)
/-- Both books: ours tells b1, the reference's b2; Y: boxes of a law. -/
structure PX (N : Nat) (X Y : Nat → Prop) (Wb : World) (G R : Nat) (w : World) (b1 b2 : Book) : Prop where
  ri : RI N w R X b2
  bi : BI N (fun k => X k ∨ Y k) w G b1
  ap : ∀ k, Y k → ¬ X k ∧ k < w.heap.size
  fr : Fr (fun k => N ≤ k) Wb w
def PA (N : Nat) (Y : Nat → Prop) (Wb : World) (G R : Nat) (w : World) (b1 b2 : Book) : Prop := ∃ X, PX N X Y Wb G R w b1 b2
section
variable {N : Nat} {X Y : Nat → Prop} {Wb : World} {G R : Nat} {w w' : World} {b1 b2 b1' b2' : Book}
theorem PX.step (h : PX N X Y Wb G R w b1 b2) (hb : Below w.heap.size w w') : PX N X Y Wb G R w' b1 b2 :=
  ⟨h.ri.step hb, h.bi.step hb, fun k hk => ⟨(h.ap k hk).1, Nat.lt_of_lt_of_le (h.ap k hk).2 hb.size⟩, h.fr.trans (Fr.of_below hb)⟩
/-- Ours was called. -/
theorem PX.ours (h : PX N X Y Wb G R w b1 b2) (hk : BI N (fun k => X k ∨ Y k) w' G b1' ∧ Fr (KX N (fun k => X k ∨ Y k)) w w') : PX N X Y Wb G R w' b1' b2 :=
  ⟨h.ri.away hk.2 (fun k hX e => e.2 (.inl hX)), hk.1, fun k hY => ⟨(h.ap k hY).1, Nat.lt_of_lt_of_le (h.ap k hY).2 hk.2.size⟩, h.fr.trans (hk.2.weak (fun k e => e.1))⟩
/-- The reference's was called. -/
theorem PX.ref (h : PX N X Y Wb G R w b1 b2) (hk : RIGo N w R X w' b2') : PA N Y Wb G R w' b1 b2' := by
  obtain ⟨X', h1, h2⟩ := hk
  refine ⟨X', h1, h.bi.swap (h2.fr.weak (fun k e => .inl e)) (fun k hk => ?_), fun k hY => ⟨fun e => ?_, Nat.lt_of_lt_of_le (h.ap k hY).2 h2.fr.size⟩, Fr.then_ h.fr h2.fr (fun k e => .inl (h.ri.lt k e).1)⟩
  · rcases hk with hk | hk
    · exact ⟨(h2.at_ k hk).imp (fun h => .inl h) (fun h => h), (h1.lt k hk).2⟩
    · exact ⟨.inl (.inr hk), Nat.lt_of_lt_of_le (h.ap k hk).2 h2.fr.size⟩
  · rcases h2.at_ k e with e | e
    · exact (h.ap k hY).1 e
    · have := (h.ap k hY).2
      omega
/-- A box of a law stays, whoever is called. -/
theorem PX.box1 (h : PX N X Y Wb G R w b1 b2) (hk : Fr (KX N (fun k => X k ∨ Y k)) w w') {g : Nat} (hg : Y g) {o : Obj} (ho : w.heap[g]? = some o) : w'.heap[g]? = some o := (hk.blk g (blk_lt ho) (fun e => e.2 (.inr hg))).trans ho
theorem PX.box2 (h : PX N X Y Wb G R w b1 b2) (hk : RIGo N w R X w' b2') {g : Nat} (hg : Y g) {o : Obj} (ho : w.heap[g]? = some o) : w'.heap[g]? = some o := by
  obtain ⟨X', _, h2⟩ := hk
  exact (h2.fr.blk g (blk_lt ho) (h.ap g hg).1).trans ho
/-- New boxes. -/
theorem PX.more {Z : Nat → Prop} (h : PX N X Y Wb G R w b1 b2) (hb : Below w.heap.size w w') (hZ : ∀ k, Z k → w.heap.size ≤ k ∧ k < w'.heap.size) : PX N X (fun k => Y k ∨ Z k) Wb G R w' b1 b2 := by
  have h2 := h.step hb
  refine ⟨h2.ri, (h.bi.more hb hZ).sub (fun k hk => ?_), fun k hk => ?_, h2.fr⟩
  · rcases hk with hk | hk | hk
    · exact .inl (.inl hk)
    · exact .inl (.inr hk)
    · exact .inr hk
  · rcases hk with hk | hk
    · exact h2.ap k hk
    · refine ⟨fun e => ?_, (hZ k hk).2⟩
      have := (h.ri.lt k e).2
      have := (hZ k hk).1
      omega
theorem PX.drop {Z : Nat → Prop} (h : PX N X Y Wb G R w b1 b2) (hs : ∀ k, Z k → Y k) : PX N X Z Wb G R w b1 b2 :=
  ⟨h.ri, h.bi.sub (fun k hk => hk.imp (fun h => h) (hs k)), fun k hk => h.ap k (hs k hk), h.fr⟩
theorem PX.inv (h : PX N X Y Wb G R w b1 b2) : Inv b1 := h.bi.inv
/-! ### same -/
theorem waits_calls (M : List S77) (A0 A1 : Option Addr) (c0 c1 : Nat) (w : World) (hr0 : Kd.C k77 w A0 M.length M) (hc0 : M.length ≤ c0) (hr1 : Kd.C k77 w A1 M.length M) (hc1 : M.length ≤ c1) (h : M.length ≤ 1000000) :
    Calls Try.prog 53 #[.slice A0 M.length c0, .slice A1 M.length c1] w fun e w' => e = .returned (.bool true) ∧ Below w.heap.size w w' := by
  have := remontoirkeep_Waits.calls (M.length + 1) A0 c0 M A1 c1 M true w hr0 hc0 hr1 hc1 (waits_same M h)
  refine this.mono ?_
  rintro e w' ⟨rfl, hb⟩
  exact ⟨rfl, hb.below⟩
/-- Two lists of one queue, one after the other. -/
theorem waits_two {ag : Int} {L M M2 : List S77} {b b2 : Nat} {X X2 : Nat → Prop} {v v2 : Value} {w : World} (hp : M.Perm L) (hs : Sorted ag M) (hp2 : M2.Perm L) (hs2 : Sorted ag M2) (nd : (ids L).Nodup) (hR : Kd.R k77 77 w b X v M) (hR2 : Kd.R k77 77 w b2 X2 v2 M2) (hl : L.length ≤ 1000000) :
    Calls Try.prog 53 #[v2, v] w fun e w' => e = .returned (.bool true) ∧ Below w.heap.size w w' := by
  have e : M2 = M := sorted_eq (hp2.trans hp.symm) ((ids_perm hp2).nodup_iff.2 nd) hs2 hs
  subst e
  obtain ⟨A, c, rfl, h1, h2⟩ := Kd.R_reads hR
  obtain ⟨A2, c2, rfl, k1, k2⟩ := Kd.R_reads hR2
  exact waits_calls M2 A2 A c2 c w k2 k1 h2 h1 (by rw [hp.length_eq]; exact hl)
theorem RB.elem0 {vq vl : Value} {ag rm ct last tr : Int} {LQ : List S77} {Ls : List Gr} {Js : List Jb} {g n cap : Nat} (h : RB N w R vq vl (.slice (some ⟨g, 0, none⟩) n cap) ag rm ct last tr LQ Ls Js) (i : Nat) (hi : i < Js.length) : w.cell? ⟨g, i * 4, none⟩ = some (.int .i64 Js[i].id) := by
  obtain ⟨A, c, e, _, hC⟩ := Kd.R_reads h.j
  cases e
  obtain ⟨ad, e1, h0, _⟩ := at98 hC i hi
  cases e1
  have e : (⟨g, 0, none⟩ : Addr).add (i * 4) = ⟨g, i * 4, none⟩ := by
    unfold Addr.add
    by_cases h : i * 4 = 0 <;> simp [h]
  rw [e] at h0
  exact h0
set_option maxHeartbeats 8000000 in
set_option maxRecDepth 100000 in
theorem same_calls {b : Book} (h : PX N X Y Wb G R w b b) (hct : b.ct ≤ 10000) : Calls Try.prog 29 #[ptr G, ptr R] w fun e w' => e = .returned (.bool true) ∧ Aside0 (PX N X Y Wb G R w' b b) := by
  obtain ⟨vq, vl, vj, LQ, hR, hp, ha, hX⟩ := h.ri.ex
  have hI := h.inv
  have hrm := hI.rm
  have hle := hI.le
  have hll := hI.llen
  have hct0 := hI.ct
  have hL1 : b.L.length ≤ 1000 := by have := hI.len; omega
  obtain ⟨A, cp, e, _, _⟩ := Kd.R_reads hR.j
  subst e
  have H := Aside0.mk h
  have HI := Aside0.mk hI
  have HQ := Aside0.mk (And.intro hp (And.intro (show (ids b.L).Nodup from hI.st.nd) hL1))
  have HR := Aside0.mk (show ∀ w', PX N X Y Wb G R w' b b → ∃ vq' vl' A' cp' LQ', RB N w' R vq' vl' (.slice A' b.Js.length cp') b.ag b.rm b.ct b.ct b.tr LQ' b.Ls b.Js ∧ LQ'.Perm b.L from fun w' h' => by
    obtain ⟨vq', vl', vj', LQ', hR', hp', _, _⟩ := h'.ri.ex
    obtain ⟨A', cp', e', _, _⟩ := Kd.R_reads hR'.j
    subst e'
    exact ⟨vq', vl', A', cp', LQ', hR', hp'⟩)
  have HL := Aside0.mk (show b.Js.length ≤ 1000 ∧ b.Ls.length ≤ 1000 ∧ 0 ≤ b.ct ∧ b.ct ≤ 10000 from ⟨by omega, by omega, by omega, by omega⟩)
  have HB := Aside0.mk (show ∀ w', Fr (KX N (fun k => X k ∨ Y k)) w w' → RB N w' R vq vl (.slice A b.Js.length cp) b.ag b.rm b.ct b.ct b.tr LQ b.Ls b.Js from fun w' hf => hR.away hf (fun k hk e => e.2 (.inl (by rw [hX]; exact hk))))
  have kp : Aside0 (∀ w', Fr (KX N (fun k => X k ∨ Y k)) w w' → w'.cell? ⟨R, 7, none⟩ = some (.slice A b.Js.length cp) ∧ w'.cell? ⟨R, 2, none⟩ = some (.int .i64 b.ct)) := ⟨fun w' hf => ⟨(blk_cell (HB.out w' hf).blk 7).trans rfl, (blk_cell (HB.out w' hf).blk 2).trans rfl⟩⟩
  clear h hI hR hp ha hX hrm hle hll hct0 hL1 hct
  go_enter Try.func29, Try.ntmps29
  go_upto_region 1 with (fail)
  have c7 := (kp.out w (Fr.refl _ _)).1
  have c2 := (kp.out w (Fr.refl _ _)).2
  have hbD := Aside0.mk (below_drew1 (Below.refl w.heap.size w))
  have f0 : Fr (KX N (fun k => X k ∨ Y k)) w w.drew := Fr.of_below hbD.out
  have f0 := Aside0.mk f0
  have hop := open_B (H.out.bi.step hbD.out)
  go_region_held3 (fun w' => w'.cell? ⟨R, 7, none⟩ = some (.slice A b.Js.length cp) ∧ w'.cell? ⟨R, 2, none⟩ = some (.int .i64 b.ct)) (first | exact kp.out _ f0.out | exact kp.out _ f1.out | exact kp.out _ f2.out | exact kp.out _ f3.out | exact kp.out _ f4.out | exact kp.out _ f5.out) (first
    | (go_at_call 11; refine hop.mono ?_; clear hop; rintro e w1 ⟨rfl, hb1⟩; have f1 : Fr (KX N (fun k => X k ∨ Y k)) w w1 := f0.out.trans (Fr.of_below hb1); have f1 := Aside0.mk f1; have h1 := Aside0.mk ((H.out.bi.step hbD.out).step hb1))
    | (go_at_call 32; refine (count_B h1.out).mono ?_; rintro e w2 ⟨rfl, hq2, g2⟩; have f2 := Aside0.mk (f1.out.trans g2); have h2 := Aside0.mk hq2; clear hq2 g2)
    | (go_at_call 31; refine (waits_B h2.out (by have := HQ.out.2.2; omega)).mono ?_; rintro e w3 ⟨v3, M, rfl, hp3, hs3, hR3, hb3⟩; have f3 : Fr (KX N (fun k => X k ∨ Y k)) w w3 := f2.out.trans (Fr.of_below hb3); have f3 := Aside0.mk f3; have hM := Aside0.mk (And.intro hp3 hs3); have hR3 := Aside0.mk hR3; have hb3 := Aside0.mk hb3; clear hp3 hs3)
    | (go_at_call 54; have hT : Calls Try.prog 54 #[.pointer (some ⟨R, 0, none⟩)] _ _ := rlist_calls (HB.out _ f3.out).q M (hM.out.1.trans HQ.out.1.symm) hM.out.2 ((ids_perm hM.out.1).nodup_iff.2 HQ.out.2.1) (by rw [HQ.out.1.length_eq]; exact HQ.out.2.2); refine hT.mono ?_; clear hT; rintro e w4 ⟨v4, rfl, hR4⟩; have f4 : Fr (KX N (fun k => X k ∨ Y k)) w w4 := f3.out.trans (Fr.of_below hR4.out.2); have f4 := Aside0.mk f4)
    | (go_at_call 53; have hT := waits_two hM.out.1 hM.out.2 hM.out.1 hM.out.2 HQ.out.2.1 hR4.out.1 (Kd.R_below hR3.out hR4.out.2) (by have := HQ.out.2.2; omega); refine hT.mono ?_; clear hT; rintro e w5 ⟨rfl, hb5⟩; have f5 : Fr (KX N (fun k => X k ∨ Y k)) w w5 := f4.out.trans (Fr.of_below hb5); have f5 := Aside0.mk f5))
  have h5 := Aside0.mk (H.out.ours ⟨(((h2.out.step hb3.out).step hR4.out.2).step hb5), f5.out⟩)
  clear hb5 hR4 hR3 hb3 hM h1 h2 f1 f2 f3 f4 f0 f5 hbD kp c7 c2
  go_upto_block 0 with (fail)
  go_cut [] (fun wx => Aside0 (PX N X Y Wb G R wx b b))
  case first =>
    as_aux_lemma =>
    go_wp2_with (fail)
    go_loopg [5] b.Js.length (fun gg v5 wr => ∃ i : Nat, v5 = .int .i64 i ∧ i ≤ b.Js.length ∧ b.Js.length - i ≤ gg ∧ Aside0 (PX N X Y Wb G R wr b b))
    case atStart => exact ⟨0, rfl, Nat.zero_le _, by omega, h5⟩
    case round =>
      obtain ⟨i, rfl, hil, hgg, hP⟩ := hrel
      clear h5
      obtain ⟨vq', vl', A', cp', LQ', hR', _⟩ := HR.out wr hP.out
      have c7 : wr.cell? ⟨R, 7, none⟩ = some (.slice A' b.Js.length cp') := (blk_cell hR'.blk 7).trans rfl
      have hj1000 : (b.Js.length : Int) ≤ 1000 := by have := HL.out.1; omega
      by_cases hi : i < b.Js.length
      · have hi2 : (i : Int) < (b.Js.length : Int) := by omega
        have hi0 : (0 : Int) ≤ (i : Int) := by omega
        obtain ⟨gb, cap, e, _⟩ := hR'.elem i hi
        obtain ⟨rfl, rfl⟩ : A' = some ⟨gb, 0, none⟩ ∧ cp' = cap := by cases e; exact ⟨rfl, rfl⟩
        clear e
        have e0 := hR'.elem0 i hi
        obtain ⟨_, hgl, _, _, e2, e3⟩ := hR'.elemAt i hi
        have hmem : b.Js[i] ∈ b.Js := List.getElem_mem hi
        have hjk := lk_get (κ := jid) HI.out.nd hmem
        have hjw := HI.out.wf _ hmem
        have hRlt := blk_lt hR'.blk
        generalize b.Js[i] = j at e0 e2 e3 hjk hjw
        have hst := state_B hP.out.bi j.id hjw (some j) hjk j.st j.us rfl rfl true rfl
        clear hmem hjk hjw hR'
        generalize j.st = jst at hst e2
        generalize j.us = jus at hst e3
        generalize j.id = jd at hst e0
        have HE := Aside0.mk (And.intro c7 (And.intro e2 (And.intro e3 (And.intro hgl hRlt))))
        clear e2 e3 hgl hRlt
        go_upto_region 7 with (go_at_call 18; refine hst.mono ?_; clear hst; rintro e w1 ⟨rfl, hb1⟩)
        generalize hw2 : w1.alloc (.cells #[.int .i64 jst, .int .i64 jus] 44) = w2
        have hb2 : Below w1.heap.size w1 w2 := by rw [← hw2]; exact below_alloc (Below.refl _ _) _
        have hx2 : w2.heap[w1.heap.size]? = some (.cells #[.int .i64 jst, .int .i64 jus] 44 (0, 0)) := by rw [← hw2]; exact blk_new _ _
        have hb12 := below_step hb1 hb2
        have x0 := (blk_cell hx2 0).trans rfl
        have x1 := (blk_cell hx2 1).trans rfl
        have c7 := (hb12.cell (p := ⟨R, 7, none⟩) HE.out.2.2.2.2).trans HE.out.1
        have e2 := (hb12.cell (p := ⟨gb, i * 4 + 2, none⟩) HE.out.2.2.2.1).trans HE.out.2.1
        have e3 := (hb12.cell (p := ⟨gb, i * 4 + 3, none⟩) HE.out.2.2.2.1).trans HE.out.2.2.1
        have hP2 := Aside0.mk (hP.out.step (below_drew1 hb12))
        generalize w1.heap.size = gx at x0 x1 ⊢
        clear hw2 hb1 hb2 hx2 hb12 hP HE e0
        go_region_held3 (fun w' => w'.cell? ⟨gx, 0, none⟩ = some (.int .i64 jst) ∧ w'.cell? ⟨gx, 1, none⟩ = some (.int .i64 jus) ∧ w'.cell? ⟨R, 7, none⟩ = some (.slice (some ⟨gb, 0, none⟩) b.Js.length cp') ∧ w'.cell? ⟨gb, i * 4 + 2, none⟩ = some (.int .i64 jst) ∧ w'.cell? ⟨gb, i * 4 + 3, none⟩ = some (.int .i64 jus)) (go_keep) (fail)
        clear c7 e2 e3 x0 x1
        go_wp2_with (fail)
        go_roundg (b.Js.length - (i + 1))
        case measure => omega
        case rel => exact ⟨i + 1, by go_num, by omega, Nat.le_refl _, hP2⟩
      · have hi2 : ¬ (i : Int) < (b.Js.length : Int) := by omega
        clear hR'
        go_wp2_with (fail)
        go_meet
        exact hP
  case rest =>
    as_aux_lemma =>
    have h6 := hcut
    clear h5 hcut
    obtain ⟨m, hm⟩ : ∃ m : Nat, (m : Int) = b.ct + 2 := ⟨(b.ct + 2).toNat, by have := HL.out; omega⟩
    go_wp2_with (fail)
    go_loopg [8] m (fun gg v8 wr => ∃ i : Nat, v8 = .int .i64 i ∧ i ≤ m ∧ m - i ≤ gg ∧ Aside0 (PX N X Y Wb G R wr b b))
    case atStart => exact ⟨0, rfl, Nat.zero_le _, by omega, h6⟩
    case round =>
      obtain ⟨i, rfl, hil, hgg, hP⟩ := hrel
      clear h6
      obtain ⟨vq', vl', A', cp', LQ', hR', _⟩ := HR.out wr hP.out
      have c5 : wr.cell? ⟨R, 5, none⟩ = some (.int .i64 b.ct) := (blk_cell hR'.blk 5).trans rfl
      obtain ⟨ct, hcte⟩ : ∃ ct, b.ct = ct := ⟨_, rfl⟩
      rw [hcte] at c5
      have hlim : 0 ≤ ct ∧ ct ≤ 10000 := by rw [← hcte]; exact HL.out.2.2
      have hml : (m : Int) ≤ 20000 := by rw [hm, hcte]; omega
      have hm2 : (m : Int) = ct + 2 := by rw [hm, hcte]
      replace hcte := Aside0.mk hcte
      by_cases hi : i < m
      · have hi2 : (i : Int) ≤ ct + 1 := by omega
        have hiw : (Lit.int .i64 (i : Int)).wf = true := Go.WalkArith.wf_i64 (by omega)
        rcases hg : lk gno b.Ls (i : Int) with _ | g
        · have hls := lease_no hP.out.bi (i : Int) hiw hg
          have HG := Aside0.mk (And.intro hg (show b.Ls.length ≤ 100000 by have := HL.out; omega))
          clear hg hR'
          go_upto_region 13 with (go_at_call 20; refine hls.mono ?_; clear hls; rintro e w1 ⟨rfl, hb1⟩)
          have hb2 : Below w1.heap.size w1 (w1.alloc zl) := below_alloc (Below.refl _ _) _
          have hP2 := Aside0.mk (hP.out.step (below_step hb1 hb2))
          have hx2 := blk_new w1 zl
          generalize w1.alloc zl = w2 at hP2 hx2 ⊢
          generalize w1.heap.size = gx at hx2 ⊢
          have HX := Aside0.mk hx2
          clear hb1 hb2 hx2 hP c5
          obtain ⟨vq', vl', A', cp', LQ', hR', _⟩ := HR.out w2 hP2.out
          have hrl := rlease_no hR' (i : Int) HG.out.2 HG.out.1
          clear hR'
          go_upto_region 14 with (go_at_call 48; refine hrl.mono ?_; clear hrl; rintro e w3 ⟨rfl, hb3⟩)
          have hb4 : Below w3.heap.size w3 (w3.alloc zl) := below_alloc (Below.refl _ _) _
          have hb34 := below_step hb3 hb4
          have hP4 := Aside0.mk (hP2.out.step hb34)
          have hx4 := blk_below HX.out hb34
          have hy4 := blk_new w3 zl
          generalize w3.alloc zl = w4 at hP4 hx4 hy4 ⊢
          generalize w3.heap.size = gy at hy4 ⊢
          have x0 := (blk_cell hx4 0).trans rfl
          have x1 := (blk_cell hx4 1).trans rfl
          have x2 := (blk_cell hx4 2).trans rfl
          have x3 := (blk_cell hx4 3).trans rfl
          have x4 := (blk_cell hx4 4).trans rfl
          have x5 := (blk_cell hx4 5).trans rfl
          have y0 := (blk_cell hy4 0).trans rfl
          have y1 := (blk_cell hy4 1).trans rfl
          have y2 := (blk_cell hy4 2).trans rfl
          have y3 := (blk_cell hy4 3).trans rfl
          have y4 := (blk_cell hy4 4).trans rfl
          have y5 := (blk_cell hy4 5).trans rfl
          clear hb3 hb4 hb34 hx4 hy4 HX hP2
          go_wp2_with (fail)
          go_roundg (m - (i + 1))
          case measure => omega
          case rel => exact ⟨i + 1, by go_num, by omega, Nat.le_refl _, hP4⟩
        · obtain ⟨j, hj, hji, hjs, hjk, hu1, hu2, hjw⟩ := HI.out.job (lk_mem hg).1
          obtain ⟨us, hus⟩ : ∃ us, j.us = us := ⟨_, rfl⟩
          have hue : usedOf b g.j = us := by unfold usedOf; rw [hjk]; exact hus
          have hgn : g.n = (i : Int) := (lk_mem hg).2
          have hls := lease_yes hP.out.bi (i : Int) hiw g hg us hue
          rw [hgn] at hls
          have HG := Aside0.mk (And.intro hg (And.intro (show b.Ls.length ≤ 100000 by have := HL.out; omega) (And.intro (show b.Js.length ≤ 100000 by have := HL.out; omega) (And.intro hjk hus))))
          clear hg hR' hj hji hjs hjk hu1 hu2 hjw hus hue hgn
          go_upto_region 13 with (go_at_call 20; refine hls.mono ?_; clear hls; rintro e w1 ⟨rfl, hb1⟩)
          obtain ⟨O, hO⟩ : ∃ O : Obj, Obj.cells #[.int .i64 (i : Int), .int .i64 g.j, .int .i64 0, .int .i64 0, .int .i64 us, .int .u64 g.u] 33 = O := ⟨_, rfl⟩
          rw [hO]
          have hb2 : Below w1.heap.size w1 (w1.alloc O) := below_alloc (Below.refl _ _) _
          have hP2 := Aside0.mk (hP.out.step (below_step hb1 hb2))
          have hx2 := blk_new w1 O
          generalize w1.alloc O = w2 at hP2 hx2 ⊢
          generalize w1.heap.size = gx at hx2 ⊢
          have HX := Aside0.mk hx2
          clear hb1 hb2 hx2 hP c5
          obtain ⟨vq', vl', A', cp', LQ', hR', _⟩ := HR.out w2 hP2.out
          have hrl := rlease_yes hR' (i : Int) HG.out.2.1 HG.out.2.2.1 g HG.out.1 j HG.out.2.2.2.1 us HG.out.2.2.2.2
          clear hR'
          go_upto_region 14 with (go_at_call 48; refine hrl.mono ?_; clear hrl; rintro e w3 ⟨rfl, hb3⟩)
          have hb4 : Below w3.heap.size w3 (w3.alloc O) := below_alloc (Below.refl _ _) _
          have hb34 := below_step hb3 hb4
          have hP4 := Aside0.mk (hP2.out.step hb34)
          have hx4 := blk_below HX.out hb34
          have hy4 := blk_new w3 O
          generalize w3.alloc O = w4 at hP4 hx4 hy4 ⊢
          generalize w3.heap.size = gy at hy4 ⊢
          subst hO
          have x0 := (blk_cell hx4 0).trans rfl
          have x1 := (blk_cell hx4 1).trans rfl
          have x2 := (blk_cell hx4 2).trans rfl
          have x3 := (blk_cell hx4 3).trans rfl
          have x4 := (blk_cell hx4 4).trans rfl
          have x5 := (blk_cell hx4 5).trans rfl
          have y0 := (blk_cell hy4 0).trans rfl
          have y1 := (blk_cell hy4 1).trans rfl
          have y2 := (blk_cell hy4 2).trans rfl
          have y3 := (blk_cell hy4 3).trans rfl
          have y4 := (blk_cell hy4 4).trans rfl
          have y5 := (blk_cell hy4 5).trans rfl
          clear hb3 hb4 hb34 hx4 hy4 HX hP2
          go_wp2_with (fail)
          go_roundg (m - (i + 1))
          case measure => omega
          case rel => exact ⟨i + 1, by go_num, by omega, Nat.le_refl _, hP4⟩
      · have hi2 : ¬ (i : Int) ≤ ct + 1 := by omega
        clear hR'
        go_wp2_with (fail)
        go_ret
        exact ⟨rfl, hP⟩
end
end Go.Proofs.Ytfkebbkfmchnaaa.Bk
