/- WheelSplits as a call: true. Conditions: the library's table as its initialiser lays it; the list reads. -/
import Derived.Test.YtedolmjealgeoaaDoorLd
import Derived.Test.YtedolmjealgeoaaDoorDu
import Derived.Test.YtedolmjealgeoaaDoorOpenKd
import Derived.Test.YtedolmjealgeoaaDoorGf
import Derived.OpenShut
set_option linter.unusedVariables false
namespace Go.Proofs.YtedolmjealgeoaaDoor.CallWheelSplits
open Go.RowKit Go.Maps Go.Proofs.YtedolmjealgeoaaDoor.PBase Go.Proofs.YtedolmjealgeoaaDoor.Tz Go.Proofs.YtedolmjealgeoaaDoor.Cat Go.Proofs.YtedolmjealgeoaaDoor.Rg Go.Proofs.YtedolmjealgeoaaDoor.Tk Go.Proofs.YtedolmjealgeoaaDoor.Wh Go.Proofs.YtedolmjealgeoaaDoor.Open Go.Proofs.YtedolmjealgeoaaDoorW.PrintWords Go.Proofs.YtedolmjealgeoaaDoorW.PrintLast Go.Proofs.YtedolmjealgeoaaDoorW.PrintMore
theorem U_of {a : Int} (h : (Lit.int .u64 a).wf = true) : U a := by
  have h2 := Go.bounds_u64 h
  unfold U
  omega
/-- append behind a guard that is met. -/
theorem append_g {P : Program} (w : World) {ops : Array Oper} {rest : List Oper} {o : Oper} {a : Act} {Q : Exit → Act → World → Prop} (hw : Region.wanted o (yielded ops a.tmps) = true) (s x : Operand) (t tn : TypeId)
    (ho : o.op = .call { callee := .builtin .append, args := #[s, x], argTypes := #[t, tn] }) (vs vx : Value) (hs : a.eval s = vs) (hx : a.eval x = vx)
    (v' : Value) (w' : World) (hr : (Builtin.append_ #[t, tn] o.type #[vs, vx]).run P w = .ok v' w') (h : wpList P ops Q rest (a.put o.dst v') w') : wpList P ops Q (o :: rest) a w := by
  unfold wpList
  rw [if_pos hw]
  exact .inl (Lib.wp_append_run w s x t tn ho vs vx hs hx v' w' hr h)
theorem R_eq {w : World} {b : Nat} {ok : Nat → Prop} {v : Value} {L M : List S31} (e : L = M) (h : Kd.R k31 31 w b ok v L) : Kd.R k31 31 w b ok v M := e ▸ h
theorem swapY {N : Nat} {X X1 Y : Nat → Prop} {W W' : World} {B : Nat} {now : Int} {T : List S31} (h : WJ N X W B now T) (hf : Fr Y W W') (hYX : ∀ k, Y k → X k) (hp : ∀ k, Y k → 0 < k) (hX : ∀ k, X1 k → (X k ∨ W.heap.size ≤ k) ∧ k < W'.heap.size) : WJ N X1 W' B now T := by
  obtain ⟨⟨F, h1, h2⟩, h3, h4, h5⟩ := h
  refine ⟨⟨F, h1.keep hf (fun k hk hx => h2 k (hYX k hx) hk), fun k hk e => ?_⟩, fun k hk => (hX k hk).2, h4, ⟨fun j hj => hf.cell (h5.tab j hj) (fun e => Nat.lt_irrefl 0 (hp 0 e)), h5.pos⟩⟩
  rcases (hX k hk).1 with hk | hk
  · exact h2 k hk e
  · have := (h1.lt k e).2
    omega
/-- Two advances tell what one tells. -/
theorem two_due (V : List S31) {t0 t : Int} (h : t0 ≤ t) : dueT V t0 ++ dueT (restT V t0) t = dueT V t ∧ restT (restT V t0) t = restT V t := by
  have hs : So (restT V t0) := (psort_so V).sublist List.filter_sublist
  have e1 : psort (restT V t0) = restT V t0 := psort_of hs (List.Perm.refl _)
  have e2 : dueT V t0 ++ restT V t0 = psort V := by
    refine uniq ?_ (psort_so V) (List.filter_append_perm _ _)
    refine List.pairwise_append.2 ⟨(psort_so V).sublist List.filter_sublist, hs, fun a ha b hb => ?_⟩
    have h1 : a.f1 ≤ t0 := by simpa using (List.mem_filter.1 ha).2
    have h2 : ¬ b.f1 ≤ t0 := by simpa using (List.mem_filter.1 hb).2
    rw [nb_iff]
    omega
  have e3 : dueT (restT V t0) t ++ restT (restT V t0) t = restT V t0 := by
    have h4 : dueT (restT V t0) t ++ restT (restT V t0) t = psort (restT V t0) := by
      refine uniq ?_ (psort_so _) (List.filter_append_perm _ _)
      refine List.pairwise_append.2 ⟨(psort_so _).sublist List.filter_sublist, (psort_so _).sublist List.filter_sublist, fun a ha b hb => ?_⟩
      have h1 : a.f1 ≤ t := by simpa using (List.mem_filter.1 ha).2
      have h2 : ¬ b.f1 ≤ t := by simpa using (List.mem_filter.1 hb).2
      rw [nb_iff]
      omega
    rw [h4, e1]
  have h5 := due_split (V := V) (t := t) (A := dueT V t0 ++ dueT (restT V t0) t) (R := restT (restT V t0) t) (by rw [List.append_assoc, e3, e2]) (fun e he => by
    rcases List.mem_append.1 he with he | he
    · have h1 : e.f1 ≤ t0 := by simpa using (List.mem_filter.1 he).2
      omega
    · simpa using (List.mem_filter.1 he).2) (fun e he => by
    have h1 : ¬ e.f1 ≤ t := by simpa using (List.mem_filter.1 he).2
    omega)
  exact ⟨h5.1.symm, h5.2.symm⟩
set_option maxHeartbeats 16000000 in
set_option maxRecDepth 100000 in
theorem walk (W : World) (hT : TabOk W) (now n0 n1 : Int) (hn : U now) (h0 : U n0) (h1 : U n1) (A : Option Addr) (c : Nat) (L : List Int) (hC : kU.C W A L.length L) (hc : L.length ≤ c) (hu : ∀ x ∈ L, U x) :
    Calls Tryd.prog 8 #[.int .u64 now, .agg #[.slice A L.length c], .agg #[.int .u64 n0, .int .u64 n1]] W fun e w' => e = .returned (.bool true) ∧ Below W.heap.size W w' := by
  have hb1 := below_alloc (Below.refl W.heap.size W) (.cells #[.slice A L.length c] 53)
  have g1 := blk_new W (.cells #[.slice A L.length c] 53)
  have hb2 := below_alloc (Below.refl (W.alloc (.cells #[.slice A L.length c] 53)).heap.size (W.alloc (.cells #[.slice A L.length c] 53))) (.cells #[.int .u64 n0, .int .u64 n1] 73)
  have g2 := blk_new (W.alloc (.cells #[.slice A L.length c] 53)) (.cells #[.int .u64 n0, .int .u64 n1] 73)
  have hsz : (W.alloc (.cells #[.slice A L.length c] 53)).heap.size = W.heap.size + 1 := by simp
  have g12 := blk_below g1 hb2
  have hb12 := below_step hb1 hb2
  rw [hsz] at g2
  obtain ⟨r1, b1, hs1⟩ : ∃ r1 b1, remontoirref01_Sum.f n0 n1 = some (r1, b1) := ⟨_, _, rsum h0 h1⟩
  have hr1 : U r1 ∧ ((b1 = true ∧ r1 = n0 + n1) ∨ (b1 = false ∧ ¬ n0 + n1 < 18446744073709551616)) := by
    have h5 := rsum h0 h1
    rw [hs1] at h5
    have h6 := Option.some.inj h5
    unfold U at *
    split at h6
    · injection h6 with h7 h8
      subst h7 h8
      exact ⟨by omega, .inl ⟨rfl, rfl⟩⟩
    · rename_i h9
      injection h6 with h7 h8
      subst h7 h8
      exact ⟨by omega, .inr ⟨rfl, h9⟩⟩
  obtain ⟨r2, b2, hs2⟩ : ∃ r2 b2, remontoirref01_Sum.f now r1 = some (r2, b2) := ⟨_, _, rsum hn hr1.1⟩
  have hr2 : (b2 = true ∧ r2 = now + r1 ∧ now + r1 < 18446744073709551616) ∨ (b2 = false ∧ ¬ now + r1 < 18446744073709551616) := by
    have h5 := rsum hn hr1.1
    rw [hs2] at h5
    have h6 := Option.some.inj h5
    split at h6
    · rename_i h9
      injection h6 with h7 h8
      subst h7 h8
      exact .inl ⟨rfl, rfl, h9⟩
    · rename_i h9
      injection h6 with h7 h8
      subst h7 h8
      exact .inr ⟨rfl, h9⟩
  have HS1 := Aside0.mk hs1
  have HS2 := Aside0.mk hs2
  have HR1 := Aside0.mk hr1
  have HR2 := Aside0.mk hr2
  have HU := Aside0.mk (And.intro hn (And.intro h0 h1))
  have HL := Aside0.mk (And.intro hC (And.intro hc hu))
  have HT := Aside0.mk hT
  clear hs1 hs2 hr1 hr2 hn h0 h1 hC hc hu hT hb1 hb2 g1 hsz
  go_enter Tryd.func8, Tryd.ntmps8
  go_upto_region 1 with (fail)
  generalize (W.alloc (.cells #[.slice A L.length c] 53)).alloc (.cells #[.int .u64 n0, .int .u64 n1] 73) = W2 at hb12 g12 g2 ⊢
  have hbW := Aside0.mk hb12
  have hG1 := Aside0.mk g12
  have hG2 := Aside0.mk g2
  clear hb12 g12 g2
  have kL : Aside0 (∀ w, Below W2.heap.size W2 w → Below W.heap.size W w ∧ TabOk w ∧ kU.C w A L.length L ∧ w.heap[W.heap.size]? = some (.cells #[.slice A L.length c] 53 (0, 0)) ∧ w.heap[W.heap.size + 1]? = some (.cells #[.int .u64 n0, .int .u64 n1] 73 (0, 0))) := ⟨fun w hb => by
    have h5 := below_step hbW.out hb
    exact ⟨h5, HT.out.below h5, Kd.C_below HL.out.1 h5, blk_below hG1.out hb, blk_below hG2.out hb⟩⟩
  have k0 := kL.out W2 (Below.refl _ _)
  have c0 : W2.cell? ⟨W.heap.size, 0, none⟩ = some (.slice A L.length c) := (blk_cell k0.2.2.2.1 0).trans rfl
  have hd1 := Aside0.mk (laid_W W2 k0.2.1 HU.out.1 A c L k0.2.2.1 HL.out.2.1 HL.out.2.2)
  clear k0
  go_upto_region 2 with (go_at_call 29; refine hd1.out.mono ?_; rintro e w1 ⟨B1, v1, ok1, rfl, hl1, d1⟩)
  have hD1 := Aside0.mk d1
  have k0 := kL.out w1 d1
  have c0 : w1.cell? ⟨W.heap.size, 0, none⟩ = some (.slice A L.length c) := (blk_cell k0.2.2.2.1 0).trans rfl
  have hd2 := Aside0.mk (laid_W w1 k0.2.1 HU.out.1 A c L k0.2.2.1 HL.out.2.1 HL.out.2.2)
  clear k0 hd1 d1
  go_upto_region 3 with (go_at_call 29; refine hd2.out.mono ?_; rintro e w2 ⟨B2, v2, ok2, rfl, hl2, d2⟩)
  have hD2 := Aside0.mk d2
  have hD12 := Aside0.mk (below_step hD1.out d2)
  have k0 := kL.out w2 hD12.out
  have c0 : w2.cell? ⟨W.heap.size, 0, none⟩ = some (.slice A L.length c) := (blk_cell k0.2.2.2.1 0).trans rfl
  have hd3 := Aside0.mk (laid_W w2 k0.2.1 HU.out.1 A c L k0.2.2.1 HL.out.2.1 HL.out.2.2)
  clear k0 hd2 d2
  go_upto_region 4 with (go_at_call 29; refine hd3.out.mono ?_; rintro e w3 ⟨B3, v3, ok3, rfl, hl3, d3⟩)
  have hD3 := Aside0.mk d3
  have hD := Aside0.mk (below_step hD12.out d3)
  have k0 := kL.out w3 hD.out
  have c1 : w3.cell? ⟨W.heap.size + 1, 0, none⟩ = some (.int .u64 n0) := (blk_cell k0.2.2.2.2 0).trans rfl
  have c2 : w3.cell? ⟨W.heap.size + 1, 1, none⟩ = some (.int .u64 n1) := (blk_cell k0.2.2.2.2 1).trans rfl
  clear k0 hd3 d3
  go_upto_region 7 with (go_at_call 33; refine (remontoirref01_Sum.calls n0 n1 _ _ _ HS1.out).mono ?_; rintro e w4 ⟨rfl, d4⟩; have g4 := Aside0.mk (blk_new w4 (.cells #[.int .u64 r1, .bool b1] 64)); have z4 : (w4.alloc (.cells #[.int .u64 r1, .bool b1] 64)).cell? ⟨w4.heap.size, 0, none⟩ = some (.int .u64 r1) := (blk_cell g4.out 0).trans rfl; have e4 := below_alloc d4 (.cells #[.int .u64 r1, .bool b1] 64); clear c1 c2)
  go_upto_region 8 with (go_at_call 33; refine (remontoirref01_Sum.calls now r1 _ _ _ HS2.out).mono ?_; rintro e w5 ⟨rfl, d5⟩; have g5 := Aside0.mk (blk_new w5 (.cells #[.int .u64 r2, .bool b2] 64)); have e5 := below_alloc d5 (.cells #[.int .u64 r2, .bool b2] 64))
  have hE := Aside0.mk (below_step e4 e5)
  have hG4 := Aside0.mk (blk_below g4.out e5)
  have hP : Aside0 (w3.heap.size ≤ w4.heap.size ∧ w3.heap.size ≤ w5.heap.size) := ⟨⟨d4.size, Nat.le_trans e4.size d5.size⟩⟩
  clear z4 d4 d5 e4 e5 g4
  generalize w4.heap.size = p1 at hG4 hP ⊢
  generalize w5.heap.size = p2 at g5 hP ⊢
  generalize w5.alloc (.cells #[.int .u64 r2, .bool b2] 64) = w6 at hE hG4 g5 ⊢
  have hD6 := Aside0.mk (below_step hD.out hE.out)
  have z1 : w6.cell? ⟨p1, 1, none⟩ = some (.bool b1) := (blk_cell hG4.out 1).trans rfl
  have z2 : w6.cell? ⟨p2, 1, none⟩ = some (.bool b2) := (blk_cell g5.out 1).trans rfl
  have hfin := Aside0.mk (kL.out w6 hD6.out)
  have hwk := Aside0.mk (wakes6 w6 hfin.out.2.1)
  by_cases hv : Valid now L
  · obtain ⟨rfl, hA⟩ := hl1.out.go hv
    rcases HR1.out.2 with ⟨rfl, e1⟩ | ⟨rfl, e1⟩
    · rcases HR2.out with ⟨rfl, e2, e3⟩ | ⟨rfl, e2⟩
      · clear hwk
        have hA := Aside0.mk hA
        have hB := Aside0.mk (hl2.out.go hv).2
        have hC3 := Aside0.mk (hl3.out.go hv).2
        have hE12 := Aside0.mk (And.intro e1 (And.intro e2 e3))
        clear hl1 hl2 hl3 hv e1 e2 e3
        go_upto_region 10 with (fail)
        clear z1 z2
        obtain ⟨T, hTe⟩ : ∃ T, ldT (fun i => now + L.getD i 0) L.length = T := ⟨_, rfl⟩
        have hTl : T.length ≤ 60 := by rw [← hTe, ldT_len]; exact hA.out.len
        obtain ⟨⟨Fa, wa, _⟩, _, tta, tba⟩ := hA.out.wj
        obtain ⟨⟨Fb, wb, _⟩, _, ttb, tbb⟩ := hB.out.wj
        obtain ⟨⟨Fc, wc, _⟩, _, ttc, tbc⟩ := hC3.out.wj
        rw [hTe] at wa wb wc tta
        clear hTe ttb ttc
        have s1 := hD1.out.size
        have s2 := hD2.out.size
        have s3 := hD3.out.size
        have s6 := hE.out.size
        have hFa : Aside0 (∀ k, Fa k → W2.heap.size ≤ k ∧ k < w1.heap.size) := ⟨fun k hk => by have := wa.lt k hk; omega⟩
        have hFb : Aside0 (∀ k, Fb k → w1.heap.size ≤ k ∧ k < w2.heap.size) := ⟨fun k hk => by have := wb.lt k hk; omega⟩
        have hFc : Aside0 (∀ k, Fc k → w2.heap.size ≤ k ∧ k < w3.heap.size) := ⟨fun k hk => by have := wc.lt k hk; omega⟩
        have d16 := Aside0.mk (below_step (below_step hD2.out hD3.out) hE.out)
        have d26 := Aside0.mk (below_step hD3.out hE.out)
        have wa6 := Aside0.mk (wa.step d16.out)
        have wb6 := Aside0.mk (wb.step d26.out)
        have wc6 := Aside0.mk (wc.step hE.out)
        have ta6 := Aside0.mk (tba.step d16.out)
        have tb6 := Aside0.mk (tbb.step d26.out)
        have tc6 := Aside0.mk (tbc.step hE.out)
        have TT0 := Aside0.mk tta
        have TL := Aside0.mk hTl
        have SZ := Aside0.mk (And.intro s1 (And.intro s2 (And.intro s3 s6)))
        have UR : Aside0 (U r1 ∧ U r2 ∧ U (now + n0) ∧ now + n0 + n1 = r2) := ⟨by
          have h5 := HU.out
          have h6 := hE12.out
          unfold U at *
          omega⟩
        have hp1 : Aside0 (∀ w, Fr (fun k => (W2.heap.size ≤ k ∧ k < w3.heap.size) ∨ w6.heap.size ≤ k) w6 w → w.heap[p1]? = some (.cells #[.int .u64 r1, .bool true] 64 (0, 0)) ∧ w.heap[p2]? = some (.cells #[.int .u64 r2, .bool true] 64 (0, 0)) ∧ w.heap[W.heap.size + 1]? = some (.cells #[.int .u64 n0, .int .u64 n1] 73 (0, 0))) := ⟨fun w hf => by
          have l1 := blk_lt hG4.out
          have l2 := blk_lt g5.out
          have l3 := blk_lt hG2.out
          have l4 := hP.out
          have l5 := hD6.out.size
          exact ⟨(hf.blk p1 l1 (by omega)).trans hG4.out, (hf.blk p2 l2 (by omega)).trans g5.out, (hf.blk _ (by omega) (by omega)).trans hfin.out.2.2.2.2⟩⟩
        have hT6 : Aside0 (∀ w, Fr (fun k => (W2.heap.size ≤ k ∧ k < w3.heap.size) ∨ w6.heap.size ≤ k) w6 w → TabOk w ∧ Below W.heap.size W w) := ⟨fun w hf => by
          have h5 : Below W.heap.size W w := hfin.out.1.trans ((hf.below hD6.out.size (fun k hk => by have := hD6.out.size; omega)).mono hbW.out.size)
          exact ⟨HT.out.below h5, h5⟩⟩
        clear wa wb wc tba tbb tbc tta hTl s1 s2 s3 s6
        have q1 : w6.cell? ⟨p1, 0, none⟩ = some (.int .u64 r1) := (blk_cell (hp1.out w6 (Fr.refl _ _)).1 0).trans rfl
        have hadv := Aside0.mk (adv_W wa6.out ta6.out TT0.out (by have := TL.out; omega) UR.out.1 hE12.out.2.1.symm UR.out.2.1)
        go_upto_region 11 with (go_at_call 32; refine hadv.out.mono ?_; rintro e w7 ⟨vx, rfl, hgA⟩)
        obtain ⟨Fa', kRx, wa7, ja, fa⟩ := hgA.out
        have wa7 := Aside0.mk wa7
        have kRx := Aside0.mk (Kd.R_bound kRx)
        have hJa := Aside0.mk ja
        have s7 := Aside0.mk fa.size
        have f7 : Aside0 (Fr (fun k => (W2.heap.size ≤ k ∧ k < w3.heap.size) ∨ w6.heap.size ≤ k) w6 w7) := ⟨fa.weak (fun k hk => .inl (by have := hFa.out k hk; have := SZ.out; omega))⟩
        have wb7 := Aside0.mk (wb6.out.keep fa (fun k hk e => by have := hFa.out k e; have := hFb.out k hk; omega))
        have wc7 := Aside0.mk (wc6.out.keep fa (fun k hk e => by have := hFa.out k e; have := hFc.out k hk; have := SZ.out; omega))
        have tb7 : Aside0 (TB (w1.heap.size + 1) w7) := ⟨⟨(hT6.out w7 f7.out).1, tb6.out.pos⟩⟩
        have q1 : w7.cell? ⟨W.heap.size + 1, 0, none⟩ = some (.int .u64 n0) := (blk_cell (hp1.out w7 f7.out).2.2 0).trans rfl
        have hadv2 := Aside0.mk (adv_W wb7.out tb7.out TT0.out (by have := TL.out; omega) HU.out.2.1 (t := now + n0) rfl UR.out.2.2.1)
        clear hadv hgA ja fa
        go_upto_region 12 with (go_at_call 32; refine hadv2.out.mono ?_; rintro e w8 ⟨vy, rfl, hgB⟩)
        obtain ⟨Fb', kRy, wb8, jb, fb⟩ := hgB.out
        have wb8 := Aside0.mk wb8
        have kRy := Aside0.mk (Kd.R_bound kRy)
        have hJb := Aside0.mk jb
        have s8 := Aside0.mk fb.size
        have f8 : Aside0 (Fr (fun k => (W2.heap.size ≤ k ∧ k < w3.heap.size) ∨ w6.heap.size ≤ k) w6 w8) := ⟨f7.out.trans (fb.weak (fun k hk => .inl (by have := hFb.out k hk; have := SZ.out; omega)))⟩
        have hFa7 : Aside0 (∀ k, Fa' k → k < w7.heap.size ∧ ((W2.heap.size ≤ k ∧ k < w1.heap.size) ∨ w6.heap.size ≤ k)) := ⟨fun k hk => by
          have h5 := (wa7.out.lt k hk).2
          rcases hJa.out k hk with h6 | h6
          · have := hFa.out k h6
            exact ⟨h5, .inl this⟩
          · exact ⟨h5, .inr h6⟩⟩
        have wa8 := Aside0.mk (wa7.out.keep fb (fun k hk e => by have := hFa7.out k hk; have := hFb.out k e; have := SZ.out; omega))
        have wc8 := Aside0.mk (wc7.out.keep fb (fun k hk e => by have := hFb.out k e; have := hFc.out k hk; omega))
        have kRx8 := Aside0.mk (Kd.R_kept kRx.out (S := Fb) ⟨fb.size, fun i hi hn => fb.blk i hi hn⟩ (fun k hk e => by have := hk.2.1; have := hFb.out k e; have := SZ.out; omega))
        have tb8 : Aside0 (TB (w1.heap.size + 1) w8) := ⟨⟨(hT6.out w8 f8.out).1, tb6.out.pos⟩⟩
        have q1 : w8.cell? ⟨W.heap.size + 1, 1, none⟩ = some (.int .u64 n1) := (blk_cell (hp1.out w8 f8.out).2.2 1).trans rfl
        have hrl : (restT T (now + n0)).length ≤ 90000 := by
          have h5 := List.length_filter_le (fun d : S31 => !decide (d.f1 ≤ now + n0)) (psort T)
          rw [psort_len] at h5
          have := TL.out
          unfold restT
          omega
        have hadv3 := Aside0.mk (adv_W wb8.out tb8.out (rest_tt TT0.out UR.out.2.2.1) hrl HU.out.2.2 UR.out.2.2.2 UR.out.2.1)
        clear hadv2 hgB jb fb hrl
        go_upto_region 13 with (go_at_call 32; refine hadv3.out.mono ?_; rintro e w9 ⟨vz, rfl, hgC⟩)
        obtain ⟨Fd, kRz, wd9, jd, fd⟩ := hgC.out
        have hFb8 : Aside0 (∀ k, Fb' k → k < w8.heap.size ∧ ((w1.heap.size ≤ k ∧ k < w2.heap.size) ∨ w7.heap.size ≤ k)) := ⟨fun k hk => by
          have h5 := (wb8.out.lt k hk).2
          rcases hJb.out k hk with h6 | h6
          · have := hFb.out k h6
            exact ⟨h5, .inl this⟩
          · exact ⟨h5, .inr h6⟩⟩
        have wd9 := Aside0.mk wd9
        have kRz := Aside0.mk (Kd.R_bound kRz)
        have f9 : Aside0 (Fr (fun k => (W2.heap.size ≤ k ∧ k < w3.heap.size) ∨ w6.heap.size ≤ k) w6 w9) := ⟨f8.out.trans (fd.weak (fun k hk => by have := hFb8.out k hk; have := SZ.out; have := s7.out; omega))⟩
        have wa9 := Aside0.mk (wa8.out.keep fd (fun k hk e => by have := hFa7.out k hk; have := hFb8.out k e; have := SZ.out; omega))
        have wc9 := Aside0.mk (wc8.out.keep fd (fun k hk e => by have := hFb8.out k e; have := hFc.out k hk; have := SZ.out; have := s7.out; omega))
        have kRx9 := Aside0.mk (Kd.R_kept kRx8.out (S := Fb') ⟨fd.size, fun i hi hn => fd.blk i hi hn⟩ (fun k hk e => by have := hk.2.1; have := hk.2.2.1; have := hFb8.out k e; have := SZ.out; omega))
        have kRy9 := Aside0.mk (Kd.R_kept kRy.out (S := Fb') ⟨fd.size, fun i hi hn => fd.blk i hi hn⟩ (fun k hk e => hk.1 e))
        have hFd9 : Aside0 (∀ k, Fd k → k < w9.heap.size ∧ ((w1.heap.size ≤ k ∧ k < w2.heap.size) ∨ w7.heap.size ≤ k)) := ⟨fun k hk => by
          have h5 := (wd9.out.lt k hk).2
          rcases jd k hk with h6 | h6
          · have := hFb8.out k h6
            exact ⟨h5, this.2⟩
          · exact ⟨h5, .inr (by have := s8.out; omega)⟩⟩
        have s9 := Aside0.mk fd.size
        clear hadv3 hgC jd fd q1
        have hpp := (psort_perm T).symm
        have tt0 := TT0.out.perm hpp
        have hJ0 : Aside0 (WJ (w2.heap.size + 1) (fun k => (k < w9.heap.size ∧ ¬ Fc k) ∨ (Value.slice none 0 0).ownBlock = some k) w9 B3 now (psort T)) := ⟨⟨⟨Fc, wc9.out.perm hpp hpp TT0.out.nd TT0.out.nd, fun k hk => by
          rcases hk with h | h
          · exact h.2
          · cases h⟩, fun k hk => hk.elim (fun h => h.1) (fun h => by cases h), tt0, ⟨(hT6.out w9 f9.out).1, tc6.out.pos⟩⟩⟩
        have hso : Aside0 (psort (psort T) = psort T) := ⟨psort_of (psort_so T) (List.Perm.refl _)⟩
        have hSl : Aside0 ((psort T).length ≤ 60) := ⟨by rw [psort_len]; exact TL.out⟩
        have hle : Aside0 (now ≤ r2) := ⟨by have := hE12.out; have := HU.out.2.1.1; have := HU.out.2.2.1; omega⟩
        obtain ⟨Ax, cx, rfl, hcx, hCx⟩ := Kd.R_reads kRx9.out
        obtain ⟨D, hDe⟩ : ∃ D, dueT T r2 = D := ⟨_, rfl⟩
        have HDE := Aside0.mk hDe
        rw [hDe] at kRx9 ⊢
        clear hcx hCx hDe hpp tt0
        obtain ⟨S, hSe⟩ : ∃ S, psort T = S := ⟨_, rfl⟩
        have HSE := Aside0.mk hSe
        rw [hSe] at hJ0 hso hSl
        clear hSe
        have hZc : Aside0 (∀ w, Fr Fc w9 w → Fr (fun k => (W2.heap.size ≤ k ∧ k < w3.heap.size) ∨ w6.heap.size ≤ k) w6 w) := ⟨fun w hf => f9.out.trans (hf.weak (fun k hk => .inl (by have := hFc.out k hk; have := SZ.out; omega)))⟩
        go_wp2
        go_loopg [24] S.length (fun gk v24 wr => ∃ (A P : List S31) (cur : Int) (vo : Value), vo = v24 ∧ P.length ≤ gk ∧ Aside0 (A ++ P = S) ∧ Aside0 (∀ e ∈ A, e.f1 ≤ r2) ∧ Aside0 (cur ≤ r2) ∧ Aside0 (psort P = P) ∧ Aside0 (WJ (w2.heap.size + 1) (fun k => (k < w9.heap.size ∧ ¬ Fc k) ∨ vo.ownBlock = some k) wr B3 cur P) ∧ Aside0 (Kd.R k31 31 wr w9.heap.size (fun k => vo.ownBlock = some k) vo A) ∧ Aside0 (Fr Fc w9 wr))
        case atStart => exact ⟨[], S, now, _, rfl, Nat.le_refl _, ⟨rfl⟩, ⟨fun e he => absurd he List.not_mem_nil⟩, hle, hso, hJ0, ⟨Kd.R_nil _ _ _ _ _⟩, ⟨Fr.refl _ _⟩⟩
        case round =>
          obtain ⟨A', P, cur, vo, rfl, hgk, hAP, hAt, hcur, hPs, hJ, hR, hF⟩ := hrel
          obtain ⟨Ao, co, rfl, hco, hCo⟩ := Kd.R_reads hR.out
          have hAP2 := hAP.out
          have hll := congrArg List.length hAP2
          rw [List.length_append] at hll
          have hAD : (A'.length : Int) ≤ (D.length : Int) := by
            have h5 : D = A'.filter (fun d => decide (d.f1 ≤ r2)) ++ P.filter (fun d => decide (d.f1 ≤ r2)) := by
              rw [← HDE.out]
              unfold dueT
              rw [HSE.out, ← hAP2, List.filter_append]
            rw [List.filter_eq_self.2 (fun e he => by simpa using hAt.out e he)] at h5
            have h6 := congrArg List.length h5
            rw [List.length_append] at h6
            omega
          have hsl2 := hSl.out
          have hPl : P.length ≤ 90000 := by omega
          have hpop := Aside0.mk (pop_J hJ.out UR.out.2.1 hPl)
          have q2 : wr.cell? ⟨p2, 0, none⟩ = some (.int .u64 r2) := (blk_cell (hp1.out wr (hZc.out wr hF.out)).2.1 0).trans rfl
          clear hco hCo hAP2 hPl
          go_upto_region 16 with (go_at_call 39; refine hpop.out.mono ?_; rintro e wp ⟨x, more, cur2, P', rfl, hpg, hJp, hfp⟩; have gp := Aside0.mk (blk_new wp (.cells #[.int .i64 x.f0, .int .u64 x.f1] 31)); have ep := Aside0.mk (below_alloc (Below.refl wp.heap.size wp) (.cells #[.int .i64 x.f0, .int .u64 x.f1] 31)))
          have hFp : Aside0 (Fr Fc w9 wp) := ⟨hF.out.then_ hfp (fun k hk => by
            by_cases h5 : Fc k
            · exact .inl h5
            · right
              have h6 : ¬ k < w9.heap.size := fun h7 => hk.2 (.inl ⟨h7, h5⟩)
              omega)⟩
          have hRp := Aside0.mk (Kd.R_kept hR.out (S := KX (w2.heap.size + 1) (fun k => (k < w9.heap.size ∧ ¬ Fc k) ∨ (Value.slice Ao A'.length co).ownBlock = some k)) ⟨hfp.size, fun i hi hn => hfp.blk i hi hn⟩ (fun k hk e => e.2 (.inr hk)))
          clear hpop hfp q2
          rcases hpg.out with ⟨x, P', e1, e2⟩ | e1
          · have hPe : P = x :: P' := hPs.out.symm.trans e1
            subst hPe
            have hsoP : So (x :: P') := hPs.out ▸ psort_so (x :: P')
            have HX2 : Aside0 (x.f1 ≤ r2 ∧ psort P' = P') := ⟨e2, psort_of (List.pairwise_cons.1 hsoP).2 (List.Perm.refl _)⟩
            have hgk2 : P'.length < gk := by rw [List.length_cons] at hgk; omega
            have hAl : A'.length ≤ 1000000 := by omega
            clear e1 e2 hsoP hpg hll
            generalize hge : wp.heap.size = gd at gp ep ⊢
            generalize wp.alloc (.cells #[.int .i64 x.f0, .int .u64 x.f1] 31) = wq at gp ep ⊢
            have ep2 : Aside0 (Below wp.heap.size wp wq) := ⟨hge ▸ ep.out⟩
            have hJq := Aside0.mk (hJp.out.step ep2.out)
            have hRq := Aside0.mk (Kd.R_below hRp.out ep2.out)
            have hFq : Aside0 (Fr Fc w9 wq) := ⟨hFp.out.trans (Fr.of_below ep2.out)⟩
            clear hge ep
            go_upto_region 17 with (fail)
            have y1 : wq.cell? ⟨gd, 1, none⟩ = some (.int .u64 x.f1) := (blk_cell gp.out 1).trans rfl
            have kg : Aside0 (∀ w', Below wq.heap.size wq w' → w'.cell? ⟨gd, 1, none⟩ = some (.int .u64 x.f1)) := ⟨fun w' hb => (blk_cell (blk_below gp.out hb) 1).trans rfl⟩
            go_region_held3 (fun w' => w'.cell? ⟨gd, 1, none⟩ = some (.int .u64 x.f1)) (first | exact kg.out _ (below_drew1 (Below.refl _ _)) | exact kg.out _ hBc) (first
              | (go_at_call 34; refine (now_J (hJq.out.step (below_drew1 (Below.refl _ _)))).mono ?_; rintro e wn ⟨rfl, hbn⟩; have hBc := below_step (below_drew1 (Below.refl wq.heap.size wq)) hbn))
            go_upto_region 19 with (fail)
            have hJn := Aside0.mk (hJq.out.step hBc)
            have hRn := Aside0.mk (Kd.R_below hRq.out hBc)
            have hFn : Aside0 (Fr Fc w9 wn) := ⟨hFq.out.trans (Fr.of_below hBc)⟩
            have gn := blk_below gp.out hBc
            have dn := below_alloc (Below.refl wn.heap.size wn) (.cells #[.int .i64 x.f0, .int .u64 x.f1] 31)
            have z0 : wn.cell? ⟨gd, 0, none⟩ = some (.int .i64 x.f0) := (blk_cell gn 0).trans rfl
            have z1 : wn.cell? ⟨gd, 1, none⟩ = some (.int .u64 x.f1) := (blk_cell gn 1).trans rfl
            obtain ⟨va, wa, hrun, hRa, hfa, hat⟩ := app2_run (Kd.R_below hRn.out dn) x 42 hAl ⟨wn.heap.size, 0, none⟩ 1 (C_one (w := wn) x) (Nat.le_trans hFn.out.size dn.size)
            have hbo := (Kd.R_bound hRn.out).1
            have hRa2 := Aside0.mk (Kd.R_mono (Kd.R_tight2 rfl hRa) (fun k hk => (hk.1.symm : va.ownBlock = some k)))
            have hJa2 : Aside0 (WJ (w2.heap.size + 1) (fun k => (k < w9.heap.size ∧ ¬ Fc k) ∨ va.ownBlock = some k) wa B3 x.f1 P') := ⟨swapY (hJn.out.step dn) hfa (fun k hk => .inr hk) (fun k hk => by
              have h5 := (hbo k hk).2.1
              have h6 := hJn.out.tb.pos
              have h7 := hJn.out.base_le
              have h8 := SZ.out
              have h9 := s7.out
              have h10 := s8.out
              have h11 := s9.out
              have h12 := blk_lt hG2.out
              omega) (fun k hk => by
              rcases hk with hk | hk
              · exact ⟨.inl (.inl hk), Nat.lt_of_lt_of_le hk.1 (Nat.le_trans hFn.out.size (Nat.le_trans dn.size hfa.size))⟩
              · refine ⟨?_, own_lt (own_of_R hRa) k hk⟩
                rcases hat with h5 | ⟨b, h5, h6⟩
                · exact .inl (.inr (h5 ▸ hk))
                · rw [h5] at hk
                  exact .inr (Option.some.inj hk ▸ h6))⟩
            have hFa2 : Aside0 (Fr Fc w9 wa) := ⟨(hFn.out.trans (Fr.of_below dn)).then_ hfa (fun k hk => .inr (hbo k hk).2.1)⟩
            clear hRa hfa hat hbo gn dn
            go_wp2_with (at_builtin; refine Lib.wpList_append_run _ (by rfl) (.tmp 120) (.tmp 122) 42 42 (by rfl) _ (.slice (some ⟨wn.heap.size, 0, none⟩) 1 1) (by rfl) (by rfl) va wa hrun ?_)
            go_roundg P'.length
            case measure => omega
            case rel => exact ⟨A' ++ [x], P', x.f1, _, rfl, Nat.le_refl _, ⟨by rw [List.append_assoc]; exact hAP.out⟩, ⟨fun e he => by
              rcases List.mem_append.1 he with he | he
              · exact hAt.out e he
              · rw [List.mem_singleton.1 he]
                exact HX2.out.1⟩, ⟨HX2.out.1⟩, ⟨HX2.out.2⟩, hJa2, hRa2, hFa2⟩
          · have hre := due_split (V := T) (t := r2) (hAP.out.trans HSE.out.symm) hAt.out e1
            rw [HDE.out] at hre
            have hDA : Aside0 (D = A' ∧ restT T r2 = P) := ⟨hre⟩
            have hcr : (if cur < r2 then r2 else cur) = r2 := by
              have := hcur.out
              split <;> omega
            rw [hcr] at hJp
            clear hre hcr e1 hpg hll
            have ep2 := Aside0.mk ep.out
            generalize hge : wp.heap.size = gd at gp ⊢
            clear hge
            have hFq : Aside0 (Fr Fc w9 (wp.alloc (.cells #[.int .i64 0, .int .u64 0] 31))) := ⟨hFp.out.trans (Fr.of_below ep2.out)⟩
            have hJq := Aside0.mk (hJp.out.step ep2.out)
            have hRq := Aside0.mk (Kd.R_below hRp.out ep2.out)
            clear ep ep2
            generalize wp.alloc (.cells #[.int .i64 0, .int .u64 0] 31) = wq at gp hFq hJq hRq ⊢
            go_upto_region 20 with (fail)
            have wa10 := Aside0.mk (wa9.out.keep hFq.out (fun k hk e => by have := hFa7.out k hk; have := hFc.out k e; have := SZ.out; omega))
            have wb10 := Aside0.mk (wd9.out.keep hFq.out (fun k hk e => by have := hFd9.out k hk; have := hFc.out k e; have := SZ.out; have := s7.out; omega))
            have kFc : ∀ b, w6.heap.size ≤ b → ¬ Fc b := fun b hb e => by
              have := hFc.out b e
              have := SZ.out
              omega
            have rx := Kd.R_kept kRx9.out (S := Fc) ⟨hFq.out.size, fun i hi hn => hFq.out.blk i hi hn⟩ (fun k hk e => kFc k hk.2.1 e)
            have ry := Kd.R_kept kRy9.out (S := Fc) ⟨hFq.out.size, fun i hi hn => hFq.out.blk i hi hn⟩ (fun k hk e => kFc k (Nat.le_trans s7.out hk.2.1) e)
            have rz := Kd.R_kept kRz.out (S := Fc) ⟨hFq.out.size, fun i hi hn => hFq.out.blk i hi hn⟩ (fun k hk e => kFc k (Nat.le_trans s7.out (Nat.le_trans s8.out hk.2.1)) e)
            have h2d := two_due T (t0 := now + n0) (t := r2) (by have := UR.out.2.2.2; have := HU.out.2.2.1; omega)
            have hDl : D.length ≤ 60 := by
              rw [hDA.out.1]
              have := hSl.out
              have := congrArg List.length hAP.out
              rw [List.length_append] at this
              omega
            rw [HDE.out] at h2d
            have hdl : (dueT T (now + n0)).length + (dueT (restT T (now + n0)) r2).length ≤ 60 := by
              have := congrArg List.length h2d.1
              rw [List.length_append] at this
              omega
            rw [h2d.2] at wb10
            obtain ⟨Ay, cy, rfl, _, hCy⟩ := Kd.R_reads ry
            obtain ⟨Az, cz, rfl, _, hCz⟩ := Kd.R_reads rz
            have HBl := below_alloc (Below.refl wq.heap.size wq) (.cells #[] 31)
            have HL : Kd.R k31 31 (wq.alloc (.cells #[] 31)) wq.heap.size (fun _ => True) (.slice (some ⟨wq.heap.size, 0, none⟩) 0 0) [] := ⟨fun _ _ => trivial, OwnRow.lit wq wq.heap.size (inner := []) (Reps.none _ _) (Nat.le_refl _) (by simp)⟩
            obtain ⟨va, wm, hrun1, hRa, hb1⟩ := run_rows 42 Ay (dueT T (now + n0)).length cy (dueT T (now + n0)) HL (Kd.C_below hCy HBl) HBl.size (by simp; omega)
            have hb1' := HBl.trans hb1
            obtain ⟨vb, wo, hrun2, hRb, hb2⟩ := run_rows 42 Az (dueT (restT T (now + n0)) r2).length cz (dueT (restT T (now + n0)) r2) hRa (Kd.C_below hCz hb1') hb1'.size (by simp; omega)
            have hbo := Aside0.mk (hb1'.trans hb2)
            rw [List.nil_append, h2d.1] at hRb
            have du1 := Aside0.mk (Wh.dues_calls hRb (Kd.R_below rx hbo.out) (by omega))
            have rv := R_eq hDA.out.1.symm hRq.out
            have du2 : Aside0 (∀ w, Below wq.heap.size wq w → Calls Tryd.prog 19 #[.slice Ao A'.length co, .slice Ax D.length cx] w fun e w' => e = .returned (.bool true) ∧ Below w.heap.size w w') := ⟨fun w hb => Wh.dues_calls (Kd.R_below rv hb) (Kd.R_below rx hb) (by omega)⟩
            have k34a : Aside0 (∀ w, Below wq.heap.size wq w → Calls Tryd.prog 34 #[ptr B1] w fun e w' => e = .returned (.int .u64 r2) ∧ Below w.heap.size w w') := ⟨fun w hb => now_calls (wa10.out.step hb)⟩
            have k34b : Aside0 (∀ w, Below wq.heap.size wq w → Calls Tryd.prog 34 #[ptr B2] w fun e w' => e = .returned (.int .u64 r2) ∧ Below w.heap.size w w') := ⟨fun w hb => now_calls (wb10.out.step hb)⟩
            have k34c := Aside0.mk k34b.out
            have k34d : Aside0 (∀ w, Below wq.heap.size wq w → Calls Tryd.prog 34 #[ptr B3] w fun e w' => e = .returned (.int .u64 r2) ∧ Below w.heap.size w w') := ⟨fun w hb => now_J (hJq.out.step hb)⟩
            obtain ⟨f, hfe⟩ : ∃ f, loadF r2 (restT T r2) = f := ⟨_, rfl⟩
            have k40a : Aside0 (∀ w, Below wq.heap.size wq w → Calls Tryd.prog 40 #[ptr B1] w fun e w' => e = .returned (.agg (lcells f 7)) ∧ Below w.heap.size w w') := ⟨fun w hb => by rw [← hfe]; exact load_W (wa10.out.step hb)⟩
            have k40b : Aside0 (∀ w, Below wq.heap.size wq w → Calls Tryd.prog 40 #[ptr B2] w fun e w' => e = .returned (.agg (lcells f 7)) ∧ Below w.heap.size w w') := ⟨fun w hb => by rw [← hfe]; exact load_W (wb10.out.step hb)⟩
            have hq9 := hT6.out wq (hZc.out wq hFq.out)
            have k30 : Aside0 (∀ w, Below wq.heap.size wq w → Calls Tryd.prog 30 #[] w fun e w' => e = .returned (.bool true) ∧ Below w.heap.size w w') := ⟨fun w hb => wakes6 w (hq9.1.below hb)⟩
            have h74 : ∀ w, (Op.equalIn 10000 74 (.agg (lcells f 7)) (.agg (lcells f 7))).run Tryd.prog w = .ok true w := fun w => eq74 _ _ _ _ _ _ _ w
            have g74 := guard74
            have hfin2 := Aside0.mk hq9.2
            have hBc := hbo.out
            clear rx ry rz h2d hdl hDl hCy hCz HBl HL hRa hb1 hb1' hRb hb2 rv hfe hq9
            go_wp2_with (first
              | (at_builtin; refine append_g _ (by rfl) (.tmp 135) (.tmp 136) 42 42 (by rfl) (.slice (some ⟨wq.heap.size, 0, none⟩) 0 0) _ (by rfl) (by rfl) va wm hrun1 ?_; clear hrun1)
              | (at_builtin; refine append_g _ (by rfl) (.tmp 137) (.tmp 138) 42 42 (by rfl) va _ (by rfl) (by rfl) vb wo hrun2 ?_; clear hrun2)
              | (go_at_call 19; refine du1.out.mono ?_; clear du1; rintro e wx ⟨rfl, hbx⟩; have hBc := below_step hBc hbx)
              | (go_at_call 19; refine (du2.out _ hBc).mono ?_; clear du2; rintro e wx ⟨rfl, hbx⟩; have hBc := below_step hBc hbx)
              | (go_at_call 34; refine (k34a.out _ hBc).mono ?_; clear k34a; rintro e wx ⟨rfl, hbx⟩; have hBc := below_step hBc hbx)
              | (go_at_call 34; refine (k34b.out _ hBc).mono ?_; clear k34b; rintro e wx ⟨rfl, hbx⟩; have hBc := below_step hBc hbx)
              | (go_at_call 34; refine (k34c.out _ hBc).mono ?_; clear k34c; rintro e wx ⟨rfl, hbx⟩; have hBc := below_step hBc hbx)
              | (go_at_call 34; refine (k34d.out _ hBc).mono ?_; clear k34d; rintro e wx ⟨rfl, hbx⟩; have hBc := below_step hBc hbx)
              | (go_at_call 40; refine (k40a.out _ hBc).mono ?_; clear k40a; rintro e wx ⟨rfl, hbx⟩; have hBc := below_step hBc hbx)
              | (go_at_call 40; refine (k40b.out _ hBc).mono ?_; clear k40b; rintro e wx ⟨rfl, hbx⟩; have hBc := below_step hBc hbx)
              | (go_at_call 30; refine (k30.out _ hBc).mono ?_; clear k30; rintro e wx ⟨rfl, hbx⟩; have hBc := below_step hBc hbx))
            go_ret
            exact ⟨rfl, below_step hfin2.out hBc⟩
      · go_wp2_with (go_at_call 30; refine hwk.out.mono ?_; rintro e w7 ⟨rfl, d7⟩)
        go_ret
        exact ⟨rfl, below_step hfin.out.1 d7⟩
    · go_wp2_with (go_at_call 30; refine hwk.out.mono ?_; rintro e w7 ⟨rfl, d7⟩)
      go_ret
      exact ⟨rfl, below_step hfin.out.1 d7⟩
  · obtain rfl := hl1.out.out hv
    go_wp2_with (go_at_call 30; refine hwk.out.mono ?_; rintro e w7 ⟨rfl, d7⟩)
    go_ret
    exact ⟨rfl, below_step hfin.out.1 d7⟩
theorem calls (W : World) (hT : TabOk W) (a0 : Int) (w0 : (Lit.int .u64 a0).wf = true) (a1 : Option Addr) (c1 : Nat) (l1 : List (List Int)) (r1 : RowsOf W [.u64] a1 l1) (x1 : l1.length ≤ c1) (m1 : c1 ≤ maxLen) (a2_0 : Int) (w2_0 : (Lit.int .u64 a2_0).wf = true) (a2_1 : Int) (w2_1 : (Lit.int .u64 a2_1).wf = true) :
    Calls Tryd.prog 8 #[.int .u64 a0, .agg #[.slice a1 l1.length c1], .agg #[.int .u64 a2_0, .int .u64 a2_1]] W fun e w' => e = .returned (.bool true) ∧ Below W.heap.size W w' := by
  have hm : l1.length ≤ 9223372036854775807 := by
    unfold maxLen at m1
    omega
  have h := walk W hT a0 a2_0 a2_1 (U_of w0) (U_of w2_0) (U_of w2_1) a1 c1 (firsts l1) (kd_ints r1 hm) (by rw [firsts_length]; exact x1) (fun x hx => U_of (firsts_wf r1 x hx))
  rw [firsts_length] at h
  exact h
end Go.Proofs.YtedolmjealgeoaaDoor.CallWheelSplits
