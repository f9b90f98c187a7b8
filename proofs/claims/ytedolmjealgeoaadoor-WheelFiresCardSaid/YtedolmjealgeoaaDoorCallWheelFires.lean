/- WheelFires as a call: true. Conditions: the library's table as its initialiser lays it; the lists read. -/
import Derived.Test.YtedolmjealgeoaaDoorFp
import Derived.Test.YtedolmjealgeoaaDoorOpenKd
import Derived.OpenShut
set_option linter.unusedVariables false
namespace Go.Proofs.YtedolmjealgeoaaDoor.CallWheelFires
open Go.RowKit Go.Maps Go.Proofs.YtedolmjealgeoaaDoor.PBase Go.Proofs.YtedolmjealgeoaaDoor.Tz Go.Proofs.YtedolmjealgeoaaDoor.Cat Go.Proofs.YtedolmjealgeoaaDoor.Rg Go.Proofs.YtedolmjealgeoaaDoor.Tk Go.Proofs.YtedolmjealgeoaaDoor.Wh Go.Proofs.YtedolmjealgeoaaDoor.Open Go.Proofs.YtedolmjealgeoaaDoorW.PrintWords Go.Proofs.YtedolmjealgeoaaDoorW.PrintLast Go.Proofs.YtedolmjealgeoaaDoorW.PrintMore
theorem U_of {a : Int} (h : (Lit.int .u64 a).wf = true) : U a := by
  have h2 := Go.bounds_u64 h
  unfold U
  omega
theorem row_at {w : World} {N : Nat} {ok : Nat → Prop} {Av : Option Addr} {n cv : Nat} {f : Nat → Int} (h : Kd.R kU 29 w N ok (.slice Av n cv) ((List.range n).map f)) (i : Nat) (hi : i < n) : ∃ ad, Av = some ad ∧ w.cell? (ad.add i) = some (.int .u64 (f i)) := by
  obtain ⟨A, c, he, _, hC⟩ := Kd.R_reads h
  have e1 : Av = A := by injection he
  subst e1
  have hr := Kd.reads_of_C (enc := Value.int .u64) (d := 0) (h1 := fun _ => rfl) hC
  have hlen : ((List.range n).map f).length = n := by simp
  rw [hlen] at hr
  obtain ⟨ad, e2, hcell⟩ := hr.2.2 (by omega)
  have h5 := hcell i hi
  rw [show ((List.range n).map f).getD i 0 = f i from by simp [List.getD_eq_getElem?_getD, hi]] at h5
  exact ⟨ad, e2, h5⟩
/-- Who waits behind the cancellations, when the wheel stands at ck; who was told. -/
def wt (f : Nat → Int) (ck : Int) (j : Nat) : Bool := !decide (j % 5 = 0) && !decide (f j ≤ ck)
def tl (f : Nat → Int) (ck : Int) (j : Nat) : Bool := !decide (j % 5 = 0) && decide (f j ≤ ck)
/-- Who is there when those below i were gone through. -/
def cn (i j : Nat) : Bool := !(decide (j % 5 = 0) && decide (j < i))
theorem cn_yes {i : Nat} : cn i i = true := by simp [cn]
theorem cn_next {i : Nat} (h : i % 5 = 0) (j : Nat) : (cn i j && !(j == i)) = cn (i + 5) j := by
  unfold cn
  by_cases h1 : j % 5 = 0
  · by_cases h2 : j < i
    · have h3 : j < i + 5 := by omega
      simp [h1, h2, h3]
    · by_cases h3 : j = i
      · subst h3
        simp [h1]
      · have h4 : ¬ j < i + 5 := by omega
        simp [h1, h2, h3, h4]
  · have h3 : j ≠ i := fun e => h1 (by rw [e]; exact h)
    simp [h1, h3]
theorem due_at {w : World} {A : Option Addr} {E : List S31} (h : Kd.C k31 w A E.length E) (k : Nat) (d : S31) (hd : E[k]? = some d) : ∃ ad, A = some ad ∧ w.cell? (ad.add (k * 2)) = some (.int .i64 d.f0) ∧ w.cell? ⟨(ad.add (k * 2)).block, (ad.add (k * 2)).off + 1, none⟩ = some (.int .u64 d.f1) := by
  obtain ⟨hk, e⟩ := List.getElem?_eq_some_iff.1 hd
  obtain ⟨ad, e1, h1, h2⟩ := at_T31 h k (by omega) (by omega)
  rw [rd_nat E k hk, e, Int.toNat_natCast] at h1 h2
  exact ⟨ad, e1, h1, h2⟩
/-- What the loop over the told ones reads: one block alone is written. -/
structure Rd (g gt : Nat) (f : Nat → Int) (n : Nat) (t : Int) (Av A1 : Option Addr) (E : List S31) (w : World) : Prop where
  sum_ : w.cell? ⟨gt, 0, none⟩ = some (.int .u64 t)
  at_ : ∀ i, i < n → ∃ ad, Av = some ad ∧ w.cell? (ad.add i) = some (.int .u64 (f i))
  due : Kd.C k31 w A1 E.length E
theorem wt_rest {f : Nat → Int} {ck t : Int} (h : ck ≤ t) (i : Nat) : (wt f ck i && !decide (f i ≤ t)) = wt f t i := by
  unfold wt
  by_cases h1 : f i ≤ t
  · simp [h1]
  · have h2 : ¬ f i ≤ ck := by omega
    simp [h1, h2]
theorem tl_due {f : Nat → Int} {ck t : Int} (h : ck ≤ t) (i : Nat) : (tl f ck i || (wt f ck i && decide (f i ≤ t))) = tl f t i := by
  unfold tl wt
  by_cases h1 : f i ≤ ck
  · have h2 : f i ≤ t := by omega
    simp [h1, h2]
  · simp [h1]
theorem told_next {w : World} {g n k j : Nat} {x : Int} {b : Nat → Bool} {E : List S31} (h : w.heap[g]? = some (.cells (tb n (toldB b E k)) 4 (0, 0))) (hd : E[k]? = some ⟨(j : Int), x⟩) (hj : j < n) : ((w.setCell ⟨g, j, none⟩ (.bool true)).drew).heap[g]? = some (.cells (tb n (toldB b E (k + 1))) 4 (0, 0)) := by
  have h5 := blk_set h j (.bool true)
  rw [tb_set hj] at h5
  rw [show toldB b E (k + 1) = (fun i => if i = j then true else toldB b E k i) from funext (fun i => toldB_succ hd i)]
  exact h5
set_option maxHeartbeats 40000000 in
set_option maxRecDepth 100000 in
theorem walk (W : World) (hT : TabOk W) (now : Int) (hn : U now) (A : Option Addr) (c : Nat) (L : List Int) (hC : kU.C W A L.length L) (hc : L.length ≤ c) (hu : ∀ x ∈ L, U x) (A2 : Option Addr) (c2 : Nat) (L2 : List Int) (hC2 : kU.C W A2 L2.length L2) (hc2 : L2.length ≤ c2) (hu2 : ∀ x ∈ L2, U x) (hm2 : L2.length ≤ 9223372036854775807) :
    Calls Tryd.prog 6 #[.int .u64 now, .agg #[.slice A L.length c], .slice A2 L2.length c2] W fun e w' => e = .returned (.bool true) ∧ Below W.heap.size W w' := by
  have hb1 := below_alloc (Below.refl W.heap.size W) (.cells #[.slice A L.length c] 53)
  have g1 := blk_new W (.cells #[.slice A L.length c] 53)
  have HU := Aside0.mk hn
  have HL := Aside0.mk (And.intro hC (And.intro hc hu))
  have HL2 := Aside0.mk (And.intro hC2 (And.intro hc2 hu2))
  have HT := Aside0.mk hT
  clear hn hC hc hu hT hC2 hc2 hu2
  go_enter Tryd.func6, Tryd.ntmps6
  go_upto_region 1 with (fail)
  generalize W.alloc (.cells #[.slice A L.length c] 53) = W2 at hb1 g1 ⊢
  have hbW := Aside0.mk hb1
  have hd1 := Aside0.mk (laid_W W2 (HT.out.below hb1) HU.out A c L (Kd.C_below HL.out.1 hb1) HL.out.2.1 HL.out.2.2)
  have c0 : W2.cell? ⟨W.heap.size, 0, none⟩ = some (.slice A L.length c) := (blk_cell g1 0).trans rfl
  clear hb1 g1
  go_upto_region 4 with (go_at_call 29; refine hd1.out.mono ?_; rintro e w1 ⟨B, v, ok, rfl, hl, d1⟩)
  have hD1 := Aside0.mk (below_step hbW.out d1)
  have hd := Aside0.mk d1
  clear hd1 d1 c0
  by_cases hv : Valid now L
  · obtain ⟨rfl, hA⟩ := hl.out.go hv
    obtain ⟨f, hf⟩ : ∃ f, (fun i => now + L.getD i 0) = f := ⟨_, rfl⟩
    have hul : Aside0 (∀ i, i < L.length → U (f i) ∧ now < f i) := ⟨fun i hi => by
      have h5 := hv.2 i hi
      rw [← hf]
      have h6 := HU.out
      unfold U at *
      show (0 ≤ now + L.getD i 0 ∧ now + L.getD i 0 < _) ∧ now < now + L.getD i 0
      omega⟩
    have hrow := hA.row
    have hwj := hA.wj
    rw [hf] at hwj hrow
    have hJ := Aside0.mk hwj
    have hn60 := hA.len
    obtain ⟨Av, cv, hve, _, _⟩ := Kd.R_reads hrow
    have hlen : ((List.range L.length).map f).length = L.length := by simp
    rw [hlen] at hve
    subst hve
    have hR := Aside0.mk hrow
    clear hl hv hA hrow hwj hf hlen
    generalize L.length = n at hul hJ hR hn60 ⊢
    go_upto_region 6 with (fail)
    go_wp2
    go_loopg [10] n (fun gk v10 wr => ∃ (i : Nat) (V : List S31), v10 = .int .i64 i ∧ i % 5 = 0 ∧ i ≤ n + 4 ∧ n - i ≤ gk ∧ Aside0 (Sel f n (cn i) V) ∧ Aside0 (WJ (W2.heap.size + 1) (fun k => (Value.slice Av n cv).ownBlock = some k) wr B now V) ∧ Aside0 (Kd.R kU 29 wr (W2.heap.size + 1) (fun k => (Value.slice Av n cv).ownBlock = some k) (.slice Av n cv) ((List.range n).map f)) ∧ Aside0 (Below W2.heap.size W2 wr))
    case atStart => exact ⟨0, _, rfl, rfl, by omega, by omega, ⟨Sel.ld.congr (fun j hj => by simp [cn])⟩, hJ, hR, hd⟩
    case round =>
      obtain ⟨i, V, rfl, hi5, hi, hgk, hS, hJ, hR, hB⟩ := hrel
      by_cases hlt : i < n
      · have hi0 : (0 : Int) ≤ (i : Int) := by omega
        have hi1 : (i : Int) < (n : Int) := by omega
        obtain ⟨ad, e1, hcell⟩ := row_at hR.out i hlt
        subst e1
        have k31 := Aside0.mk (can_J hJ.out (i : Int) (wf_sm (by omega) (by omega)) (by have := hS.out.len; omega) (some (f i)) (hS.out.yes hlt cn_yes))
        have hcl : Aside0 (∀ w', Fr (KX (W2.heap.size + 1) (fun k => (Value.slice (some ad) n cv).ownBlock = some k)) wr w' → w'.cell? (ad.add i) = some (.int .u64 (f i))) := ⟨fun w' hf => by
          obtain ⟨ad2, e2, h2⟩ := row_at (Kd.R_kept hR.out (S := KX (W2.heap.size + 1) (fun k => (Value.slice (some ad) n cv).ownBlock = some k)) ⟨hf.size, fun i hi hn => hf.blk i hi hn⟩ (fun k hk e => e.2 hk)) i hlt
          injection e2 with e2
          subst e2
          exact h2⟩
        clear hcell
        go_wp2_with (go_at_call 31; refine k31.out.mono ?_; rintro e wa ⟨rfl, hJa, hfa⟩; have hca := hcl.out wa hfa)
        go_roundg (n - (i + 5))
        case measure => omega
        case rel => exact ⟨i + 5, _, by go_num, by omega, by omega, Nat.le_refl _, ⟨(hS.out.rm_ i).congr (fun j hj => cn_next hi5 j)⟩, hJa, ⟨Kd.R_kept hR.out (S := KX (W2.heap.size + 1) (fun k => (Value.slice (some ad) n cv).ownBlock = some k)) ⟨hfa.size, fun i hi hn => hfa.blk i hi hn⟩ (fun k hk e => e.2 hk)⟩, ⟨hB.out.trans (hfa.below (Nat.le_trans (Nat.le_succ _) hJ.out.base_le) (fun k hk => Nat.le_trans (Nat.le_succ _) hk.1))⟩⟩
      · have hi1 : ¬ (i : Int) < (n : Int) := by omega
        have hS0 : Aside0 (Sel f n (wt f now) V) := ⟨hS.out.congr (fun j hj => by
          have h5 := (hul.out j hj).2
          have h6 : ¬ f j ≤ now := by omega
          have h7 : j < i := by omega
          simp [cn, wt, h6, h7])⟩
        clear hS hi5 hgk
        have hmk := mk59 n hn60
        go_upto_region 13 with (fail)
        have gT := blk_new wr (.cells (tb n (fun _ => false)) 4)
        have bT := below_alloc (Below.refl wr.heap.size wr) (.cells (tb n (fun _ => false)) 4)
        generalize wr.alloc (.cells (tb n (fun _ => false)) 4) = wm at gT bT ⊢
        have hJm := Aside0.mk (hJ.out.more (Y := fun k => k = wr.heap.size) bT (fun k hk => by
          have e2 : k = wr.heap.size := hk
          subst e2
          exact ⟨Nat.le_refl _, blk_lt gT⟩))
        have hRm := Aside0.mk (Kd.R_below hR.out bT)
        have hBm := Aside0.mk (below_step hB.out bT)
        have hvg : Aside0 (∀ k, (Value.slice Av n cv).ownBlock = some k → k ≠ wr.heap.size) := ⟨fun k hk e => by have := hJ.out.xs k hk; omega⟩
        have hgW := hJ.out.base_le
        have hgB := Nat.le_trans hB.out.size (Nat.le_refl wr.heap.size)
        rw [show tb n (fun _ => false) = tb n (tl f now) from tb_ext (fun j hj => by
          have h5 := (hul.out j hj).2
          have h6 : ¬ f j ≤ now := by omega
          simp [tl, h6])] at gT
        have hTm := Aside0.mk gT
        clear hmk gT bT hJ hR hB
        generalize wr.heap.size = g at hJm hTm hgW hgB hvg ⊢
        have hRd2 := Aside0.mk (Kd.reads_of_C (enc := Value.int .u64) (d := 0) (h1 := fun _ => rfl) HL2.out.1)
        clear hi hi1 hlt
        go_wp2
        go_loopg [14, 15] 41 (fun gk v14 v15 wr => ∃ (ck : Int) (i : Nat) (V : List S31), v14 = .int .u64 ck ∧ v15 = .int .i64 i ∧ i ≤ 40 ∧ 40 - i ≤ gk ∧ Aside0 (U ck ∧ now ≤ ck) ∧ Aside0 (Sel f n (wt f ck) V) ∧ Aside0 (WJ (W2.heap.size + 1) (fun k => (Value.slice Av n cv).ownBlock = some k ∨ k = g) wr B ck V) ∧ Aside0 (Kd.R kU 29 wr (W2.heap.size + 1) (fun k => (Value.slice Av n cv).ownBlock = some k) (.slice Av n cv) ((List.range n).map f)) ∧ Aside0 (wr.heap[g]? = some (.cells (tb n (tl f ck)) 4 (0, 0))) ∧ Aside0 (Below W2.heap.size W2 wr))
        case atStart => exact ⟨now, 0, V, rfl, rfl, by omega, by omega, ⟨HU.out, Int.le_refl _⟩, hS0, hJm, hRm, hTm, hBm⟩
        case round =>
          clear hJm hRm hTm hBm hS0
          obtain ⟨ck, i, V, rfl, rfl, hi40, hgk, hUC, hS, hJ, hR, hTT, hB⟩ := hrel
          have hBW := Aside0.mk (below_step hbW.out hB.out)
          have hwk := Aside0.mk (wakes6 wr (HT.out.below hBW.out))
          by_cases hm : i < L2.length
          · have hm1 : (i : Int) < (L2.length : Int) := by omega
            by_cases h40 : i < 40
            · have h41 : (i : Int) < 40 := by omega
              have hi0 : (0 : Int) ≤ (i : Int) := by omega
              obtain ⟨ad2, e2, hcell2⟩ := hRd2.out.2.2 (by omega)
              subst e2
              obtain ⟨x, hx⟩ : ∃ x, L2.getD i 0 = x := ⟨_, rfl⟩
              have hci := hcell2 i hm
              rw [hx] at hci
              have hux : U x := by
                rw [← hx, List.getD_eq_getElem?_getD, List.getElem?_eq_getElem hm]
                exact HL2.out.2.2 _ (List.getElem_mem hm)
              have HUX := Aside0.mk hux
              have hcx : Aside0 (∀ w, Below W.heap.size W w → w.cell? (ad2.add i) = some (.int .u64 x)) := ⟨fun w hb => (hb.cell (World.block_lt_of_cell? W _ hci)).trans hci⟩
              have q0 := hcx.out wr hBW.out
              have hs := rsum hUC.out.1 hux
              clear hcell2 hci hx hux
              by_cases ho : ck + x < 18446744073709551616
              · rw [if_pos ho] at hs
                obtain ⟨t, ht⟩ : ∃ t, ck + x = t := ⟨_, rfl⟩
                rw [ht] at hs
                have hut : U t := by
                  have h5 := hUC.out.1
                  have h6 := HUX.out
                  unfold U at *
                  omega
                have hct : ck ≤ t := by
                  have h6 := HUX.out
                  unfold U at h6
                  omega
                have HS := Aside0.mk hs
                have k32 := Aside0.mk (adv_J hJ.out (by have := hS.out.len; omega) HUX.out ht hut)
                have hgl := blk_lt hTT.out
                clear hs ho ht
                have hbN := hJ.out.base_le
                have hSE := Aside0.mk (hS.out.due t)
                have hSR : Aside0 (Sel f n (wt f t) (restT V t)) := ⟨(hS.out.rest t).congr (fun j _ => wt_rest hct j)⟩
                have hSo := Aside0.mk (due_so V t)
                obtain ⟨E, hE⟩ : ∃ E, dueT V t = E := ⟨_, rfl⟩
                obtain ⟨V', hV'⟩ : ∃ V', restT V t = V' := ⟨_, rfl⟩
                rw [hE] at hSE hSo k32
                rw [hV'] at hSR k32
                clear hE hV'
                have HTB := Aside0.mk (And.intro hut (And.intro hct (And.intro hgl hbN)))
                clear hut hct hgl hbN
                go_upto_region 18 with (go_at_call 32; refine k32.out.mono ?_; rintro e wa ⟨v1, rfl, hg⟩)
                obtain ⟨hR1, hJ1, hf1⟩ := hg.out
                obtain ⟨A1, c1, rfl, hc1, hC1⟩ := Kd.R_reads hR1
                have hba : Below W2.heap.size W2 wa := hB.out.trans (hf1.below (Nat.le_trans (Nat.le_succ _) HTB.out.2.2.2) (fun k hk => Nat.le_trans (Nat.le_succ _) hk.1))
                have hBa := Aside0.mk hba
                have hTa := Aside0.mk ((hf1.blk g HTB.out.2.2.1 (fun e => e.2 (.inr rfl))).trans hTT.out)
                have hRa := Aside0.mk (Kd.R_kept hR.out (S := KX (W2.heap.size + 1) (fun k => (Value.slice Av n cv).ownBlock = some k ∨ k = g)) ⟨hf1.size, fun i hi hn => hf1.blk i hi hn⟩ (fun k hk e => e.2 (.inl hk)))
                have hRE := Aside0.mk hR1
                have hJa := Aside0.mk hJ1
                have hN1 : Aside0 (∀ k, (Value.slice A1 (List.length E) c1).ownBlock = some k → k ≠ g) := ⟨fun k hk e => by
                  have h5 := ((Kd.R_bound hR1).1 k hk).2.1
                  have h6 := HTB.out.2.2.1
                  omega⟩
                have q1 := hcx.out wa (below_step hbW.out hba)
                clear hg hR1 hJ1 hf1 hba k32 q0 hc1 hC1
                go_upto_region 19 with (go_at_call 33; refine (remontoirref01_Sum.calls ck x t true _ HS.out).mono ?_; rintro e wb ⟨rfl, bb⟩; have gb := blk_new wb (.cells #[.int .u64 t, .bool true] 64); have db := below_alloc (Below.refl wb.heap.size wb) (.cells #[.int .u64 t, .bool true] 64))
                have hgt : g < wb.heap.size := Nat.lt_of_lt_of_le (blk_lt hTa.out) bb.size
                have hbc := Aside0.mk (below_step bb db)
                generalize wb.alloc (.cells #[.int .u64 t, .bool true] 64) = wc at gb hbc ⊢
                generalize wb.heap.size = gt at gb hgt ⊢
                have GB := Aside0.mk gb
                have z1 : wc.cell? ⟨gt, 1, none⟩ = some (.bool true) := (blk_cell gb 1).trans rfl
                have hJc := Aside0.mk (hJa.out.step hbc.out)
                have HGT := Aside0.mk hgt
                clear q1 bb db gb hgt
                go_upto_region 22 with (fail)
                clear z1
                have kp : Aside0 (∀ w, Below wc.heap.size wc w → w.cell? ⟨gt, 0, none⟩ = some (.int .u64 t)) := ⟨fun w hb => (blk_cell (blk_below GB.out hb) 0).trans rfl⟩
                have z0 := kp.out wc (Below.refl _ _)
                go_region_held3 (fun w' => w'.cell? ⟨gt, 0, none⟩ = some (.int .u64 t)) (first | exact kp.out _ (below_drew1 (Below.refl _ _)) | exact kp.out _ hBd) (first | (go_at_call 34; refine (now_J (hJc.out.step (below_drew1 (Below.refl _ _)))).mono ?_; rintro e wd ⟨rfl, bd⟩; have hBd := below_step (below_drew1 (Below.refl wc.heap.size wc)) bd))
                have hbd := Aside0.mk (below_step hbc.out hBd)
                have hB0 := Aside0.mk (below_step hBa.out hbd.out)
                have hJ0 := Aside0.mk (hJa.out.step hbd.out)
                have hR0 := Aside0.mk (Kd.R_below hRa.out hbd.out)
                have hRE0 := Aside0.mk (Kd.R_below hRE.out hbd.out)
                have hT0 := Aside0.mk (blk_below hTa.out hbd.out)
                have hgt0 := Aside0.mk (blk_below GB.out hBd)
                clear z0 kp hBd bd hbd
                have hrd : Aside0 (∀ w', Fr (fun b => b = g) wd w' → Rd g gt f n t Av A1 E w') := ⟨fun w' hf => by
                  have hk : ∀ {Q : Nat → Prop}, (∀ k, Q k → k ≠ g) → ∀ k, Q k → ¬ (k = g) := fun h k hq e => h k hq e
                  refine ⟨(blk_cell ((hf.blk gt (blk_lt hgt0.out) (fun e => by have := HGT.out; omega)).trans hgt0.out) 0).trans rfl, fun i hi => row_at (Kd.R_kept hR0.out (S := fun b => b = g) ⟨hf.size, fun i hi hn => hf.blk i hi hn⟩ (hk hvg.out)) i hi, ?_⟩
                  obtain ⟨A', c', he, _, hC⟩ := Kd.R_reads (Kd.R_kept hRE0.out (S := fun b => b = g) ⟨hf.size, fun i hi hn => hf.blk i hi hn⟩ (hk hN1.out))
                  injection he with he
                  subst he
                  exact hC⟩
                have hT00 : Aside0 (wd.heap[g]? = some (.cells (tb n (toldB (tl f ck) E 0)) 4 (0, 0))) := ⟨by rw [toldB_zero]; exact hT0.out⟩
                have hEn := hSE.out.len
                go_wp2
                go_loopg [19] E.length (fun gk v19 wr => ∃ k : Nat, v19 = .int .i64 k ∧ k ≤ E.length ∧ E.length - k ≤ gk ∧ Aside0 (wr.heap[g]? = some (.cells (tb n (toldB (tl f ck) E k)) 4 (0, 0))) ∧ Aside0 (Fr (fun b => b = g) wd wr))
                case atStart => exact ⟨0, rfl, Nat.zero_le _, by omega, hT00, ⟨Fr.refl _ _⟩⟩
                case round =>
                  clear hT00
                  obtain ⟨k, rfl, hk, hgk2, hTk, hFk⟩ := hrel
                  by_cases hlt : k < E.length
                  · have hk0 : (0 : Int) ≤ (k : Int) := by omega
                    have hk1 : (k : Int) < (E.length : Int) := by omega
                    obtain ⟨d, hd⟩ : ∃ d, E[k]? = some d := ⟨_, List.getElem?_eq_getElem hlt⟩
                    obtain ⟨j, hj, hp, rfl⟩ := (hSE.out.mem d).1 (List.mem_of_getElem? hd)
                    have hp2 : ¬ j % 5 = 0 ∧ ¬ f j ≤ ck ∧ f j ≤ t := by
                      simp only [wt, Bool.and_eq_true, Bool.not_eq_true', decide_eq_false_iff_not, decide_eq_true_eq] at hp
                      exact ⟨hp.1.1, hp.1.2, hp.2⟩
                    have hmf := toldB_no (b := tl f ck) hSE.out.nd hd (by simp [tl, hp2.2.1])
                    obtain ⟨y, hy⟩ : ∃ y, f j = y := ⟨_, rfl⟩
                    have rd := hrd.out wr hFk.out
                    obtain ⟨ad1, e1, hx0, hx1⟩ := due_at rd.due k _ hd
                    subst e1
                    obtain ⟨ad3, e3, _⟩ := rd.at_ j hj
                    subst e3
                    have HD := Aside0.mk hd
                    have HY := Aside0.mk hy
                    have HP := Aside0.mk hp2
                    have HMF := Aside0.mk hmf
                    replace hx0 : wr.cell? (ad1.add (k * 2)) = some (.int .i64 j) := hx0
                    replace hx1 : wr.cell? ⟨(ad1.add (k * 2)).block, (ad1.add (k * 2)).off + 1, none⟩ = some (.int .u64 y) := hx1.trans (by rw [← hy])
                    clear hd hp hp2 hmf hy rd
                    go_upto_region 28 with (fail)
                    have gd := blk_new wr (.cells #[.int .i64 (j : Int), .int .u64 y] 31)
                    have bd := below_alloc (Below.refl wr.heap.size wr) (.cells #[.int .i64 (j : Int), .int .u64 y] 31)
                    have hgr := blk_lt hTk.out
                    generalize wr.alloc (.cells #[.int .i64 (j : Int), .int .u64 y] 31) = w27 at gd bd ⊢
                    have hF27 := Aside0.mk (hFk.out.trans (Fr.of_below (F := fun b => b = g) bd))
                    have hT27 := Aside0.mk (blk_below hTk.out bd)
                    have rd := hrd.out w27 hF27.out
                    obtain ⟨_, e3, hq4⟩ := rd.at_ j hj
                    injection e3 with e3
                    subst e3
                    rw [HY.out] at hq4
                    have hq5 := rd.sum_
                    have hq1 : w27.cell? ⟨wr.heap.size, 0, none⟩ = some (.int .i64 (j : Int)) := (blk_cell gd 0).trans rfl
                    have hq2 : w27.cell? ⟨wr.heap.size, 1, none⟩ = some (.int .u64 y) := (blk_cell gd 1).trans rfl
                    have hq3 : w27.cell? ⟨g, j, none⟩ = some (.bool false) := ((blk_cell hT27.out j).trans (tb_at hj)).trans (by rw [HMF.out])
                    have hP := HP.out
                    rw [HY.out] at hP
                    obtain ⟨hp1, hp2, hp3⟩ := hP
                    have hp4 : ¬ t < y := by omega
                    obtain ⟨r, hr⟩ : ∃ r, (j : Int).tmod 5 = r := ⟨_, rfl⟩
                    have hr0 : (r == 0) = false := beq_eq_false_iff_ne.mpr (fun e => by
                      rw [e, Int.tmod_eq_emod_of_nonneg (by omega)] at hr
                      omega)
                    have hj0 : (0 : Int) ≤ (j : Int) := by omega
                    have hj1 : (j : Int) < (n : Int) := by omega
                    have hj2 : ¬ (j : Int) < 0 := by omega
                    have hj3 : ¬ (n : Int) ≤ (j : Int) := by omega
                    have rdue := Aside0.mk rd.due
                    clear gd bd rd hx0 hx1 hp1 hp3
                    have hfz := blk_frozen hT27.out j
                    have htn := Aside0.mk (told_next hT27.out HD.out hj)
                    have hFn : Aside0 (∀ m, Fr (fun b => b = g) wd ((w27.drewN m).setCell ⟨g, j, none⟩ (.bool true))) := ⟨fun m => (hF27.out.trans (Fr.of_below (F := fun b => b = g) (pw_below_drewN (Below.refl w27.heap.size w27) m))).trans (Fr.set (w27.drewN m) g j (.bool true))⟩
                    cases k with
                    | zero =>
                      as_aux_lemma =>
                      simp only [List.append_eq, List.cons_append, List.nil_append]
                      go_quiet (fail)
                      as_aux_lemma =>
                      go_wp2
                      go_roundg (E.length - (0 + 1))
                      case measure => omega
                      case rel => exact ⟨0 + 1, by go_num, by omega, Nat.le_refl _, htn, ⟨hFn.out _⟩⟩
                    | succ q =>
                      obtain ⟨d2, hd2⟩ : ∃ d, E[q]? = some d := ⟨_, List.getElem?_eq_getElem (by omega)⟩
                      have hpr := pair_at hSo.out hSE.out.nd hd2 HD.out
                      obtain ⟨_, e1, hq6, hq7⟩ := due_at rdue.out q d2 hd2
                      injection e1 with e1
                      subst e1
                      obtain ⟨a, b⟩ := d2
                      replace hq6 : w27.cell? (ad1.add (q * 2)) = some (.int .i64 a) := hq6
                      replace hq7 : w27.cell? ⟨(ad1.add (q * 2)).block, (ad1.add (q * 2)).off + 1, none⟩ = some (.int .u64 b) := hq7
                      replace hpr : b < f j ∨ b = f j ∧ a < (j : Int) := hpr
                      rw [HY.out] at hpr
                      obtain ⟨K, hK⟩ : ∃ K : Int, ((q + 1 : Nat) : Int) = K := ⟨_, rfl⟩
                      rw [hK]
                      have hK0 : (0 : Int) < K := by omega
                      have hwK : IntKind.i64.wrap (K - 1) = (q : Int) := by rw [i64_w]; unfold wrap64; omega
                      have hKe : K + 1 = (((q + 1) + 1 : Nat) : Int) := by omega
                      have hKl : K + 1 ≤ 100 := by omega
                      have hq0 : (0 : Int) ≤ (q : Int) := by omega
                      have hql : (q : Int) < (E.length : Int) := by omega
                      clear hk0 hk1 hd2 hK
                      by_cases hby : b = y
                      · subst hby
                        have hy1 : ¬ b < b := by omega
                        have haj : ¬ (j : Int) ≤ a := by omega
                        clear hpr
                        as_aux_lemma =>
                        simp only [List.append_eq, List.cons_append, List.nil_append]
                        go_quiet (fail)
                        as_aux_lemma =>
                        go_wp2
                        go_roundg (E.length - ((q + 1) + 1))
                        case measure => omega
                        case rel => exact ⟨(q + 1) + 1, by first | go_num | (rw [← hKe]; go_num), by omega, Nat.le_refl _, htn, ⟨hFn.out _⟩⟩
                      · have hy1 : ¬ y < b := by omega
                        have hby2 : (b == y) = false := beq_eq_false_iff_ne.mpr hby
                        clear hpr
                        as_aux_lemma =>
                        simp only [List.append_eq, List.cons_append, List.nil_append]
                        go_quiet (fail)
                        as_aux_lemma =>
                        go_wp2
                        go_roundg (E.length - ((q + 1) + 1))
                        case measure => omega
                        case rel => exact ⟨(q + 1) + 1, by first | go_num | (rw [← hKe]; go_num), by omega, Nat.le_refl _, htn, ⟨hFn.out _⟩⟩
                  · obtain rfl : k = E.length := by omega
                    have hk1 : ¬ ((E.length : Nat) : Int) < ((E.length : Nat) : Int) := by omega
                    have hz := (hrd.out wr hFk.out).sum_
                    have hX0 : Aside0 (∀ k, ((Value.slice Av n cv).ownBlock = some k ∨ k = g) → 0 < k) := ⟨fun k hk => by
                      rcases hk with hk | hk
                      · have := ((Kd.R_bound hR0.out).1 k hk).2.1
                        omega
                      · omega⟩
                    have hJz := Aside0.mk (((hJ0.out.sub (Y := fun k => (Value.slice Av n cv).ownBlock = some k ∨ k = g) (fun k hk => .inl hk)).swap (X1 := fun k => (Value.slice Av n cv).ownBlock = some k ∨ k = g) (hFk.out.weak (fun k hk => .inr hk)) hX0.out (fun k hk => ⟨.inl hk, Nat.lt_of_lt_of_le (hJ0.out.xs k (.inl hk)) hFk.out.size⟩)))
                    have hRz : Aside0 (Kd.R kU 29 wr (W2.heap.size + 1) (fun k => (Value.slice Av n cv).ownBlock = some k) (.slice Av n cv) ((List.range n).map f)) := ⟨Kd.R_kept hR0.out (S := fun b => b = g) ⟨hFk.out.size, fun i hi hn => hFk.out.blk i hi hn⟩ (fun k hk e => hvg.out k hk e)⟩
                    have hTz : Aside0 (wr.heap[g]? = some (.cells (tb n (tl f t)) 4 (0, 0))) := ⟨by
                      have h5 := hTk.out
                      rw [tb_ext (fun i hi => (toldB_all hSE.out hi).trans (tl_due HTB.out.2.1 i))] at h5
                      exact h5⟩
                    have hBz := Aside0.mk (hB0.out.trans (hFk.out.below (Nat.le_trans hB0.out.size (Nat.le_refl _)) (fun k hk => by have e5 : k = g := hk; omega)))
                    clear hTk hFk hrd hJ0 hR0 hB0 hT0 hJa hRa hRE hN1 hBa hTa hRE0 hgt0 hSo hSE hX0 hJc GB HGT hbc
                    go_upto_region 32 with (fail)
                    clear hz
                    obtain ⟨wz, hwz⟩ : ∃ wz, wz = wr := ⟨_, rfl⟩
                    subst hwz
                    go_wp2
                    go_loopg [21] n (fun gk v21 ws => ∃ k : Nat, v21 = .int .i64 k ∧ k ≤ n ∧ n - k ≤ gk ∧ Aside0 (Below wz.heap.size wz ws))
                    case atStart => exact ⟨0, rfl, Nat.zero_le _, by omega, ⟨Below.refl _ _⟩⟩
                    case round =>
                      obtain ⟨k, rfl, hk, hgk3, hBk⟩ := hrel
                      by_cases hlt : k < n
                      · have hk0 : (0 : Int) ≤ (k : Int) := by omega
                        have hkn : (k : Int) < (n : Int) := by omega
                        have hq1 : wr.cell? ⟨g, k, none⟩ = some (.bool (tl f t k)) := (blk_cell (blk_below hTz.out hBk.out) k).trans (tb_at hlt)
                        obtain ⟨ad3, e3, hq2⟩ := row_at (Kd.R_below hRz.out hBk.out) k hlt
                        obtain ⟨y, hy⟩ : ∃ y, f k = y := ⟨_, rfl⟩
                        rw [hy] at hq2
                        have htl : tl f t k = (!decide (k % 5 = 0) && decide (y ≤ t)) := by rw [← hy]; rfl
                        obtain ⟨r, hr⟩ : ∃ r, (k : Int).tmod 5 = r := ⟨_, rfl⟩
                        have hr5 : r = ((k % 5 : Nat) : Int) := by rw [← hr, Int.tmod_eq_emod_of_nonneg (by omega)]; omega
                        have HR5 := Aside0.mk hr5
                        clear hr5 hy
                        subst e3
                        rw [htl] at hq1
                        clear htl
                        go_upto_region 35 with (fail)
                        by_cases h5 : k % 5 = 0
                        · have hr0 : (r != 0) = false := by rw [HR5.out, h5]; rfl
                          rw [decide_eq_true h5, Bool.not_true, Bool.false_and] at hq1
                          clear h5
                          go_quiet (fail)
                          go_wp2
                          go_roundg (n - (k + 1))
                          case measure => omega
                          case rel => exact ⟨k + 1, by go_num, by omega, Nat.le_refl _, ⟨by repeat (first | exact hBk.out | apply pw_below_drewN | apply below_drew1)⟩⟩
                        · have hr0 : (r != 0) = true := by
                            rw [bne_iff_ne, HR5.out]
                            omega
                          rw [decide_eq_false h5, Bool.not_false, Bool.true_and] at hq1
                          clear h5
                          obtain ⟨d, hd⟩ : ∃ d, decide (y ≤ t) = d := ⟨_, rfl⟩
                          rw [hd] at hq1
                          cases d with
                          | false =>
                            go_quiet (fail)
                            go_wp2
                            go_roundg (n - (k + 1))
                            case measure => omega
                            case rel => exact ⟨k + 1, by go_num, by omega, Nat.le_refl _, ⟨by repeat (first | exact hBk.out | apply pw_below_drewN | apply below_drew1)⟩⟩
                          | true =>
                            go_quiet (fail)
                            go_wp2
                            go_roundg (n - (k + 1))
                            case measure => omega
                            case rel => exact ⟨k + 1, by go_num, by omega, Nat.le_refl _, ⟨by repeat (first | exact hBk.out | apply pw_below_drewN | apply below_drew1)⟩⟩
                      · obtain rfl : k = n := by omega
                        have hkn : ¬ (k : Int) < (k : Int) := by omega
                        go_wp2
                        go_roundg (40 - (i + 1))
                        case measure => omega
                        case rel => exact ⟨t, i + 1, V', rfl, by go_num, by omega, Nat.le_refl _, ⟨HTB.out.1, Int.le_trans hUC.out.2 HTB.out.2.1⟩, hSR, ⟨hJz.out.step hBk.out⟩, ⟨Kd.R_below hRz.out hBk.out⟩, ⟨blk_below hTz.out hBk.out⟩, ⟨below_step hBz.out hBk.out⟩⟩
              · rw [if_neg ho] at hs
                have HS := Aside0.mk hs
                have k32 := Aside0.mk (advo_J hJ.out HUX.out ho)
                clear hs ho
                go_upto_region 19 with (first
                  | (go_at_call 32; refine k32.out.mono ?_; rintro e wa ⟨rfl, ba⟩; have q1 := hcx.out wa (below_step hBW.out ba))
                  | (go_at_call 33; refine (remontoirref01_Sum.calls ck x 0 false _ HS.out).mono ?_; rintro e wb ⟨rfl, bb⟩; have gb := blk_new wb (.cells #[.int .u64 0, .bool false] 64); have db := below_alloc (Below.refl wb.heap.size wb) (.cells #[.int .u64 0, .bool false] 64)))
                generalize hsz : wb.heap.size = gt at gb ⊢
                generalize wb.alloc (.cells #[.int .u64 0, .bool false] 64) = wc at gb db ⊢
                rw [hsz] at db
                have z1 : wc.cell? ⟨gt, 1, none⟩ = some (.bool false) := (blk_cell gb 1).trans rfl
                have hbc := Aside0.mk (below_step (below_step ba bb) (hsz ▸ db))
                have k34 := Aside0.mk (now_J (hJ.out.step hbc.out))
                clear q0 q1 ba bb db gb hsz
                go_wp2_with (go_at_call 34; refine k34.out.mono ?_; rintro e wd ⟨rfl, bd⟩)
                go_roundg (40 - (i + 1))
                case measure => omega
                case rel => exact ⟨ck, i + 1, V, rfl, by go_num, by omega, Nat.le_refl _, hUC, hS, ⟨hJ.out.step (below_step hbc.out bd)⟩, ⟨Kd.R_below hR.out (below_step hbc.out bd)⟩, ⟨blk_below hTT.out (below_step hbc.out bd)⟩, ⟨below_step hB.out (below_step hbc.out bd)⟩⟩
            · have h41 : ¬ (i : Int) < 40 := by omega
              go_wp2_with (go_at_call 30; refine hwk.out.mono ?_; rintro e w7 ⟨rfl, d7⟩)
              go_ret
              exact ⟨rfl, below_step hBW.out d7⟩
          · have hm1 : ¬ (i : Int) < (L2.length : Int) := by omega
            go_wp2_with (go_at_call 30; refine hwk.out.mono ?_; rintro e w7 ⟨rfl, d7⟩)
            go_ret
            exact ⟨rfl, below_step hBW.out d7⟩
  · obtain rfl := hl.out.out hv
    have hwk := Aside0.mk (wakes6 w1 (HT.out.below hD1.out))
    go_wp2_with (go_at_call 30; refine hwk.out.mono ?_; rintro e w7 ⟨rfl, d7⟩)
    go_ret
    exact ⟨rfl, below_step hD1.out d7⟩
theorem calls (W : World) (hT : TabOk W) (a0 : Int) (w0 : (Lit.int .u64 a0).wf = true) (a1 : Option Addr) (c1 : Nat) (l1 : List (List Int)) (r1 : RowsOf W [.u64] a1 l1) (x1 : l1.length ≤ c1) (m1 : c1 ≤ maxLen) (a2 : Option Addr) (c2 : Nat) (l2 : List (List Int)) (r2 : RowsOf W [.u64] a2 l2) (x2 : l2.length ≤ c2) (m2 : c2 ≤ maxLen) (y2 : l2.length * 8 ≤ 140737488351232) :
    Calls Tryd.prog 6 #[.int .u64 a0, .agg #[.slice a1 l1.length c1], .slice a2 l2.length c2] W fun e w' => e = .returned (.bool true) ∧ Below W.heap.size W w' := by
  have hm : l1.length ≤ 9223372036854775807 := by
    unfold maxLen at m1
    omega
  have hm2 : l2.length ≤ 9223372036854775807 := by omega
  have h := walk W hT a0 (U_of w0) a1 c1 (firsts l1) (kd_ints r1 hm) (by rw [firsts_length]; exact x1) (fun x hx => U_of (firsts_wf r1 x hx)) a2 c2 (firsts l2) (kd_ints r2 hm2) (by rw [firsts_length]; exact x2) (fun x hx => U_of (firsts_wf r2 x hx)) (by rw [firsts_length]; exact hm2)
  rw [firsts_length, firsts_length] at h
  exact h
end Go.Proofs.YtedolmjealgeoaaDoor.CallWheelFires
