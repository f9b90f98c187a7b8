/- WheelPlaces as a call: true. Conditions: the library's table as its initialiser lays it; the list reads. -/
import Derived.Test.YtedolmjealgeoaaDoorPl
import Derived.Test.YtedolmjealgeoaaDoorOpenKd
import Derived.Test.YtedolmjealgeoaaDoorGf
import Derived.OpenShut
set_option linter.unusedVariables false
namespace Go.Proofs.YtedolmjealgeoaaDoor.CallWheelPlaces
open Go.RowKit Go.Maps Go.Proofs.YtedolmjealgeoaaDoor.PBase Go.Proofs.YtedolmjealgeoaaDoor.Tz Go.Proofs.YtedolmjealgeoaaDoor.Cat Go.Proofs.YtedolmjealgeoaaDoor.Rg Go.Proofs.YtedolmjealgeoaaDoor.Tk Go.Proofs.YtedolmjealgeoaaDoor.Wh Go.Proofs.YtedolmjealgeoaaDoor.Open Go.Proofs.YtedolmjealgeoaaDoorW.PrintWords Go.Proofs.YtedolmjealgeoaaDoorW.PrintLast Go.Proofs.YtedolmjealgeoaaDoorW.PrintMore
theorem U_of {a : Int} (h : (Lit.int .u64 a).wf = true) : U a := by
  have h2 := Go.bounds_u64 h
  unfold U
  omega
/-- Seven numbers. -/
def v7 (c : Nat → Value) : Array Value := #[c 0, c 1, c 2, c 3, c 4, c 5, c 6]
theorem v7_at (c : Nat → Value) {k : Nat} (hk : k < 7) : (v7 c)[k]? = some (c k) := by
  have h : k = 0 ∨ k = 1 ∨ k = 2 ∨ k = 3 ∨ k = 4 ∨ k = 5 ∨ k = 6 := by omega
  rcases h with rfl | rfl | rfl | rfl | rfl | rfl | rfl <;> rfl
theorem v7_set (c : Nat → Value) {k : Nat} (hk : k < 7) (v : Value) : (v7 c).setIfInBounds k v = v7 (fun j => if j = k then v else c j) := by
  have h : k = 0 ∨ k = 1 ∨ k = 2 ∨ k = 3 ∨ k = 4 ∨ k = 5 ∨ k = 6 := by omega
  rcases h with rfl | rfl | rfl | rfl | rfl | rfl | rfl <;> rfl
/-- What lies behind the Advance: a part of the timers, in the wheel. -/
structure After (W w : World) (B : Nat) (v : Value) (f : Nat → Int) (n : Nat) (ck : Int) (V D : List S31) (vl : Value) (er : Int) : Prop where
  wj : WJ (W.heap.size + 1) (fun k => v.ownBlock = some k ∨ vl.ownBlock = some k) w B ck V
  row : Kd.R kU 29 w (W.heap.size + 1) (fun k => v.ownBlock = some k ∨ vl.ownBlock = some k) v ((List.range n).map f)
  pt : Part f n V
  n60 : n ≤ 60
  len : V.length + D.length = n
  er : er = 0 ∨ D = []
  bel : Below W.heap.size W w
  uf : ∀ i, i < n → U (f i)
theorem ldT_nd (f : Nat → Int) : ∀ n, (ids (ldT f n)).Nodup
  | 0 => List.nodup_nil
  | n + 1 => List.nodup_cons.2 ⟨ldT_new f n, ldT_nd f n⟩
theorem adv_any {W w1 : World} {B : Nat} {v : Value} {now n0 : Int} {f : Nat → Int} {n : Nat} (hJ : WJ (W.heap.size + 1) (fun k => v.ownBlock = some k) w1 B now (ldT f n)) (hR : Kd.R kU 29 w1 (W.heap.size + 1) (fun k => v.ownBlock = some k) v ((List.range n).map f)) (hu : ∀ i, i < n → U (f i)) (hn : n ≤ 60) (h0 : U n0) (hb : Below W.heap.size W w1) :
    Calls Tryd.prog 32 #[ptr B, .int .u64 n0] w1 fun e w' => ∃ ck V D A5 c5 er, e = .returned (.tuple #[.slice A5 (List.length D) c5, .int .i64 er]) ∧ Aside0 (After W w' B v f n ck V D (.slice A5 (List.length D) c5) er) := by
  have hlt : W.heap.size + 1 ≤ w1.heap.size := hJ.base_le
  have hl : (ldT f n).length ≤ 90000 := by rw [ldT_len]; omega
  by_cases ho : now + n0 < 18446744073709551616
  · have ht : U (now + n0) := ⟨by have := hJ.tt.un.1; have := h0.1; omega, ho⟩
    refine (adv_J hJ hl h0 (t := now + n0) rfl ht).mono ?_
    rintro e w' ⟨vl, rfl, hg⟩
    obtain ⟨k1, k2, k3⟩ := hg.out
    obtain ⟨A5, c5, rfl, _, _⟩ := Kd.R_reads k1
    refine ⟨now + n0, restT (ldT f n) (now + n0), dueT (ldT f n) (now + n0), A5, c5, 0, rfl, ⟨k2, ?_, ⟨k2.tt.nd, fun d hd => ?_⟩, hn, ?_, .inl rfl, ?_, hu⟩⟩
    · exact Kd.R_mono (Kd.R_kept hR (S := KX (W.heap.size + 1) (fun k => v.ownBlock = some k)) ⟨k3.size, fun i hi hn => k3.blk i hi hn⟩ (fun k hk e => e.2 hk)) (fun k hk => .inl hk)
    · exact (psort_perm _).mem_iff.1 (List.mem_filter.1 hd).1
    · have h5 := (List.filter_append_perm (fun d : S31 => decide (d.f1 ≤ now + n0)) (psort (ldT f n))).length_eq
      rw [List.length_append, psort_len, ldT_len] at h5
      unfold restT dueT
      omega
    · exact hb.trans (k3.below (Nat.le_trans (Nat.le_succ _) hlt) (fun k hk => Nat.le_trans (Nat.le_succ _) hk.1))
  · refine (advo_J hJ h0 ho).mono ?_
    rintro e w' ⟨rfl, hbb⟩
    refine ⟨now, ldT f n, [], none, 0, 14, rfl, ⟨(hJ.step hbb).sub (fun k hk => ?_), ?_, ⟨ldT_nd f n, fun d hd => hd⟩, hn, by rw [ldT_len]; rfl, .inr rfl, below_step hb hbb, hu⟩⟩
    · rcases hk with hk | hk
      · exact hk
      · cases hk
    · exact Kd.R_mono (Kd.R_below hR hbb) (fun k hk => .inl hk)
set_option maxHeartbeats 16000000 in
set_option maxRecDepth 100000 in
theorem walk (W : World) (hT : TabOk W) (now n0 : Int) (hn : U now) (h0 : U n0) (A : Option Addr) (c : Nat) (L : List Int) (hC : kU.C W A L.length L) (hc : L.length ≤ c) (hu : ∀ x ∈ L, U x) :
    Calls Tryd.prog 10 #[.int .u64 now, .agg #[.slice A L.length c], .int .u64 n0] W fun e w' => e = .returned (.bool true) ∧ Below W.heap.size W w' := by
  have hb1 := below_alloc (Below.refl W.heap.size W) (.cells #[.slice A L.length c] 53)
  have g1 := blk_new W (.cells #[.slice A L.length c] 53)
  have HU := Aside0.mk (And.intro hn h0)
  have HL := Aside0.mk (And.intro hC (And.intro hc hu))
  have HT := Aside0.mk hT
  clear hn h0 hC hc hu hT
  go_enter Tryd.func10, Tryd.ntmps10
  go_upto_region 1 with (fail)
  generalize W.alloc (.cells #[.slice A L.length c] 53) = W2 at hb1 g1 ⊢
  have hbW := Aside0.mk hb1
  have hd1 := Aside0.mk (laid_W W2 (HT.out.below hb1) HU.out.1 A c L (Kd.C_below HL.out.1 hb1) HL.out.2.1 HL.out.2.2)
  have c0 : W2.cell? ⟨W.heap.size, 0, none⟩ = some (.slice A L.length c) := (blk_cell g1 0).trans rfl
  clear hb1 g1
  go_upto_region 4 with (go_at_call 29; refine hd1.out.mono ?_; rintro e w1 ⟨B, v, ok, rfl, hl, d1⟩)
  have hD1 := Aside0.mk (below_step hbW.out d1)
  have hd := Aside0.mk d1
  clear hd1 d1 c0
  by_cases hv : Valid now L
  · obtain ⟨rfl, hA⟩ := hl.out.go hv
    obtain ⟨f, hf⟩ : ∃ f, (fun i => now + L.getD i 0) = f := ⟨_, rfl⟩
    have HA := Aside0.mk hA
    have hul : Aside0 (∀ i, i < L.length → U (f i)) := ⟨fun i hi => by
      have h5 := hv.2 i hi
      rw [← hf]
      have h6 := HU.out.1
      unfold U at *
      show 0 ≤ now + L.getD i 0 ∧ now + L.getD i 0 < _
      omega⟩
    have hrow := hA.row
    have hwj := hA.wj
    rw [hf] at hwj
    have hrow2 : Kd.R kU 29 w1 (W2.heap.size + 1) (fun k => v.ownBlock = some k) v ((List.range L.length).map f) := by
      rw [← hf]
      exact hrow
    have hJ := Aside0.mk hwj
    have hR := Aside0.mk hrow2
    have hn60 := Aside0.mk hA.len
    clear hl hv hA hrow hwj hrow2 hf HA
    generalize L.length = n at hul hJ hR hn60
    go_upto_region 6 with (fail)
    have hadv := Aside0.mk (adv_any hJ.out hR.out hul.out hn60.out HU.out.2 hd.out)
    go_upto_region 7 with (go_at_call 32; refine hadv.out.mono ?_; rintro e w6 ⟨ck, V, D, A5, c5, er, rfl, hG⟩)
    clear hadv hJ hR hul hn60 hd
    have hn60 := hG.out.n60
    have hlen : ((List.range n).map f).length = n := by simp
    obtain ⟨Av, cv, hve, _, hCv⟩ := Kd.R_reads hG.out.row
    have HRd := Aside0.mk (Kd.reads_of_C (enc := Value.int .u64) (d := 0) (h1 := fun _ => rfl) hCv)
    rw [hlen] at hve HRd
    subst hve
    have hsz : (w6.alloc (.cells #[.int .i64 0, .int .i64 0, .int .i64 0, .int .i64 0, .int .i64 0, .int .i64 0, .int .i64 0] 74)).heap.size = w6.heap.size + 1 := by simp
    have gl := blk_new w6 (.cells #[.int .i64 0, .int .i64 0, .int .i64 0, .int .i64 0, .int .i64 0, .int .i64 0, .int .i64 0] 74)
    have bl := below_alloc (Below.refl w6.heap.size w6) (.cells #[.int .i64 0, .int .i64 0, .int .i64 0, .int .i64 0, .int .i64 0, .int .i64 0, .int .i64 0] 74)
    have gm := blk_new (w6.alloc (.cells #[.int .i64 0, .int .i64 0, .int .i64 0, .int .i64 0, .int .i64 0, .int .i64 0, .int .i64 0] 74)) (.cells #[.int .u64 0, .int .u64 0, .int .u64 0, .int .u64 0, .int .u64 0, .int .u64 0, .int .u64 0] 90)
    have bm := below_alloc bl (.cells #[.int .u64 0, .int .u64 0, .int .u64 0, .int .u64 0, .int .u64 0, .int .u64 0, .int .u64 0] 90)
    have gl2 := blk_alloc gl (.cells #[.int .u64 0, .int .u64 0, .int .u64 0, .int .u64 0, .int .u64 0, .int .u64 0, .int .u64 0] 90)
    rw [hsz] at gm
    go_upto_region 9 with (fail)
    generalize (w6.alloc (.cells #[.int .i64 0, .int .i64 0, .int .i64 0, .int .i64 0, .int .i64 0, .int .i64 0, .int .i64 0] 74)).alloc (.cells #[.int .u64 0, .int .u64 0, .int .u64 0, .int .u64 0, .int .u64 0, .int .u64 0, .int .u64 0] 90) = w8 at gm bm gl2 ⊢
    have HGL : Aside0 (w8.heap[w6.heap.size]? = some (.cells (v7 (fun k => .int .i64 (ln (prs V) (lev f ck) 0 k))) 74 (0, 0))) := ⟨gl2⟩
    have HGM : Aside0 (w8.heap[w6.heap.size + 1]? = some (.cells (v7 (fun k => .int .u64 (mx (prs V) (lev f ck) f k 0))) 90 (0, 0))) := ⟨gm⟩
    have HB8 := Aside0.mk bm
    clear gl bl gm bm gl2 hsz hCv hlen
    obtain ⟨pr, hpr⟩ : ∃ pr, prs V = pr := ⟨_, rfl⟩
    obtain ⟨le, hle⟩ : ∃ le, lev f ck = le := ⟨_, rfl⟩
    have HPR := Aside0.mk (And.intro hpr hle)
    rw [hpr, hle] at HGL HGM
    clear hpr hle
    go_wp2
    go_loopg [14, 15] n (fun gk v14 v15 wr => ∃ (i : Nat), v14 = .int .i64 (pn pr i) ∧ v15 = .int .i64 i ∧ i ≤ n ∧ n - i ≤ gk ∧ Aside0 (wr.heap[w6.heap.size]? = some (.cells (v7 (fun k => .int .i64 (ln pr le i k))) 74 (0, 0))) ∧ Aside0 (wr.heap[w6.heap.size + 1]? = some (.cells (v7 (fun k => .int .u64 (mx pr le f k i))) 90 (0, 0))) ∧ Aside0 (Below w6.heap.size w6 wr))
    case atStart => exact ⟨0, rfl, rfl, Nat.zero_le _, by omega, HGL, HGM, HB8⟩
    case round =>
      obtain ⟨i, rfl, rfl, hi, hgk, hL, hM, hB⟩ := hrel
      by_cases hlt : i < n
      · have hi0 : (0 : Int) ≤ (i : Int) := by omega
        have hi1 : (i : Int) < (n : Int) := by omega
        have hpl := Aside0.mk (pn_le (pr := pr) i)
        have hJr := Aside0.mk (hG.out.wj.step hB.out)
        cases hp : pr i with
        | false =>
          have ht : tof V (i : Int) = none := Part.no (by rw [HPR.out.1]; exact hp)
          have k46 := Aside0.mk (place_J hJr.out (i : Int) (wf_sm (by omega) (by omega)) none ht)
          have kL := Aside0.mk (fun k => ln_no (le := le) hp k)
          have kM := Aside0.mk (fun k => mx_no (le := le) (f := f) hp k)
          have kP := pn_no hp
          have k48 : Aside0 (∀ w, Below wr.heap.size wr w → Calls Tryd.prog 48 #[ptr B, .int .i64 i] w fun e w' => e = .returned (.tuple #[.int .u64 0, .bool false]) ∧ Below w.heap.size w w') := ⟨fun w hb => at_J (hJr.out.step hb) (i : Int) (wf_sm (by omega) (by omega)) none ht⟩
          clear ht hp
          go_wp2_with (first
            | (go_at_call 46; refine k46.out.mono ?_; rintro e wa ⟨rfl, hba⟩)
            | (go_at_call 48; refine (k48.out wa hba).mono ?_; rintro e wb ⟨rfl, hbb⟩))
          go_roundg (n - (i + 1))
          case measure => omega
          case rel =>
            refine ⟨i + 1, by rw [kP], by go_num, by omega, Nat.le_refl _, ⟨?_⟩, ⟨?_⟩, ⟨below_step hB.out (below_step hba hbb)⟩⟩
            · rw [show (fun k => Value.int .i64 (ln pr le (i + 1) k : Int)) = (fun k => Value.int .i64 (ln pr le i k : Int)) from funext (fun k => by rw [kL.out k])]
              exact blk_below hL.out (below_step hba hbb)
            · rw [show (fun k => Value.int .u64 (mx pr le f k (i + 1))) = (fun k => Value.int .u64 (mx pr le f k i)) from funext (fun k => by rw [kM.out k])]
              exact blk_below hM.out (below_step hba hbb)
        | true =>
          have hp2 : prs V i = true := by rw [HPR.out.1]; exact hp
          obtain ⟨ht, hin⟩ := hG.out.pt.at_ hp2
          have k46 := Aside0.mk (place_J hJr.out (i : Int) (wf_sm (by omega) (by omega)) (some (f i)) ht)
          have k48 : Aside0 (∀ w, Below wr.heap.size wr w → Calls Tryd.prog 48 #[ptr B, .int .i64 i] w fun e w' => e = .returned (.tuple #[.int .u64 (f i), .bool true]) ∧ Below w.heap.size w w') := ⟨fun w hb => at_J (hJr.out.step hb) (i : Int) (wf_sm (by omega) (by omega)) (some (f i)) ht⟩
          have hui := hG.out.uf i hlt
          have hun := hG.out.wj.tt.un
          obtain ⟨l, hll⟩ : ∃ l, lv (f i) ck = l := ⟨_, rfl⟩
          have hdr := dg_range (f i) l
          have hlv10 := (lv_spec hui hun).2.2
          rw [hll] at hlv10
          have HLL := Aside0.mk hll
          have hki : Aside0 (le i = if l < 6 then l else 6) := ⟨by rw [← HPR.out.2]; unfold lev; rw [hll]⟩
          obtain ⟨k, hk⟩ : ∃ k, le i = k := ⟨_, rfl⟩
          rw [hk] at hki
          have kL := Aside0.mk (fun j => ln_yes (le := le) hp j)
          have kM := Aside0.mk (fun j => mx_yes (le := le) (f := f) hp j)
          have kP := pn_yes hp
          rw [hk] at kL kM
          have hk7 : k < 7 := by rw [hki.out]; split <;> omega
          have hk70 : (0 : Int) ≤ (k : Int) := by omega
          have hk71 : (k : Int) < 7 := by omega
          have hk72 : (k : Int) ≤ 6 := by omega
          obtain ⟨y, hy⟩ : ∃ y : Int, (ln pr le i k : Int) = y := ⟨_, rfl⟩
          have hyl := ln_le (pr := pr) (le := le) i k
          have hy0 : 0 ≤ y := by omega
          have hy60 : y ≤ 60 := by omega
          obtain ⟨z, hz⟩ : ∃ z : Int, mx pr le f k i = z := ⟨_, rfl⟩
          obtain ⟨ad, e1, hcell⟩ := HRd.out.2.2 (by omega)
          subst e1
          have hci := hcell i hlt
          rw [show ((List.range n).map f).getD i 0 = f i from by simp [List.getD_eq_getElem?_getD, hlt]] at hci
          have HCI := Aside0.mk hci
          clear hcell hci ht hin hp2 hk
          have q1 : (v7 (fun k => Value.int .i64 (ln pr le i k)))[k]? = some (.int .i64 y) := (v7_at _ hk7).trans (by rw [hy])
          have q2 : (v7 (fun k => Value.int .u64 (mx pr le f k i)))[k]? = some (.int .u64 z) := (v7_at _ hk7).trans (by rw [hz])
          have hmx : ∀ W : World, (Builtin.max_ #[29, 29] 29 #[.int .u64 z, .int .u64 (f i)]).run Tryd.prog W = .ok (.int .u64 (if z < f i then f i else z)) W := fun W => by
            simp [Builtin.max_, Builtin.max2]
          have hpl2 : pn pr i ≤ 60 := by have := hpl.out; omega
          have u91 : (Tryd.prog.underlying 91).isSome = true := by rw [Tryd.underlying91]; rfl
          have u3 : Tryd.prog.underlying 3 = some (.int .i64) := Tryd.underlying3
          have HQ := Aside0.mk (And.intro q1 q2)
          have HY := Aside0.mk (And.intro hy hz)
          clear q1 q2 hy hz hyl
          have hrest : Aside0 (∀ w, Below wr.heap.size wr w → Aside0 (w.cell? (ad.add i) = some (.int .u64 (f i)) ∧ w.heap[w6.heap.size]? = some (.cells (v7 (fun k => .int .i64 (ln pr le i k))) 74 (0, 0)) ∧ w.heap[w6.heap.size + 1]? = some (.cells (v7 (fun k => .int .u64 (mx pr le f k i))) 90 (0, 0)) ∧ Below w6.heap.size w6 w)) := ⟨fun w hb => ⟨by
            have h5 := below_step hB.out hb
            exact ⟨(h5.cell (World.block_lt_of_cell? w6 _ HCI.out)).trans HCI.out, blk_below hL.out hb, blk_below hM.out hb, h5⟩⟩⟩
          by_cases hl6 : l < 6
          · have hkl : k = l := by rw [hki.out, if_pos hl6]
            subst hkl
            obtain ⟨s, hs⟩ : ∃ s : Nat, dg (f i) k = (s : Int) := ⟨(dg (f i) k).toNat, by omega⟩
            have hs64 : s < 64 := by omega
            have HSS := Aside0.mk hs
            have k46' : Aside0 (Calls Tryd.prog 46 #[ptr B, .int .i64 i] wr fun e w' => e = .returned (.tuple #[.complex .f64 (fl (s : Int)) (fl k), .bool true]) ∧ Below wr.heap.size wr w') := ⟨by
              have h5 := k46.out
              rw [show placeO ck (some (f i)) = .complex .f64 (fl (s : Int)) (fl k) from by
                show placeV ck (f i) = _
                unfold placeV
                rw [HLL.out, if_pos hl6, hs]] at h5
              exact h5⟩
            clear k46 hs
            have cv1 := fun w => run_convert_float_int (P := Tryd.prog) w 91 3 .f64 .i64 (fl k) k u91 u3 (fl_int k (by omega))
            have cv2 := fun w => run_convert_float_int (P := Tryd.prog) w 91 3 .f64 .i64 (fl (s : Int)) s u91 u3 (fl_int s hs64)
            have hkk : (k : Int) < 6 := by omega
            have hk6 : ((k : Int) == 6) = false := beq_eq_false_iff_ne.mpr (by omega)
            go_upto_region 22 with (first
              | (go_at_call 46; refine k46'.out.mono ?_; rintro e wa ⟨rfl, hba⟩)
              | (go_at_call 48; refine (k48.out wa hba).mono ?_; rintro e wb ⟨rfl, hbb⟩; have hr := hrest.out wb (below_step hba hbb); have c5 := hr.out.1))
            have hgl := Aside0.mk hr.out.2.1
            have hgm := Aside0.mk hr.out.2.2.1
            have hbb6 := Aside0.mk hr.out.2.2.2
            have q3 := (blk_cell hgl.out k).trans HQ.out.1
            have q4 := blk_frozen hgl.out k
            have hgl2 := blk_set hgl.out k (.int .i64 (y + 1))
            rw [v7_set _ hk7] at hgl2
            have hgl2 := Aside0.mk hgl2
            have fs := Fr.set wb w6.heap.size k (.int .i64 (y + 1))
            have hgm2 := Aside0.mk ((fs.blk (w6.heap.size + 1) (blk_lt hgm.out) (by omega)).trans hgm.out)
            have hbc6 := Aside0.mk (below_set (v := .int .i64 (y + 1)) (j := k) hbb6.out (Nat.le_refl _))
            clear hr c5 fs
            go_upto_region 23 with (fail)
            generalize wb.setCell ⟨w6.heap.size, k, none⟩ (.int .i64 (y + 1)) = wc at hgl2 hgm2 hbc6 ⊢
            clear q3 q4
            have q3 := (blk_cell hgm2.out k).trans HQ.out.2
            have q4 := blk_frozen hgm2.out k
            have hgm3 := blk_set hgm2.out k (.int .u64 (if z < f i then f i else z))
            rw [v7_set _ hk7] at hgm3
            have hgm3 := Aside0.mk hgm3
            have fs := Fr.set wc (w6.heap.size + 1) k (.int .u64 (if z < f i then f i else z))
            have hgl3 := Aside0.mk ((fs.blk w6.heap.size (blk_lt hgl2.out) (by omega)).trans hgl2.out)
            have hbd6 := Aside0.mk (below_set (v := .int .u64 (if z < f i then f i else z)) (j := k) hbc6.out (Nat.le_succ _))
            clear fs
            obtain ⟨mm, hmm⟩ : ∃ mm, (if z < f i then f i else z) = mm := ⟨_, rfl⟩
            have HMM := Aside0.mk hmm
            rw [hmm] at hmx hgm3 hgl3 hbd6
            clear hmm
            go_upto_region 24 with (fail)
            generalize wc.setCell ⟨w6.heap.size + 1, k, none⟩ (.int .u64 mm) = wd at hgl3 hgm3 hbd6 ⊢
            clear q3 q4 hmx
            have hJd := Aside0.mk (hG.out.wj.step hbd6.out)
            obtain ⟨tp, htp, hit⟩ := top hui hun
            have hlt2 := lv_top hui hun hit
            rw [hll] at hlt2
            have HTP := Aside0.mk htp
            have hend : Aside0 (∀ w, Below wd.heap.size wd w → w.heap[w6.heap.size]? = some (.cells (v7 (fun k => .int .i64 (ln pr le (i + 1) k))) 74 (0, 0)) ∧ w.heap[w6.heap.size + 1]? = some (.cells (v7 (fun k => .int .u64 (mx pr le f k (i + 1)))) 90 (0, 0)) ∧ Below w6.heap.size w6 w) := ⟨fun w hb => by
              have e1 : (fun j => if j = k then Value.int .i64 (y + 1) else Value.int .i64 (ln pr le i j : Int)) = (fun j => Value.int .i64 (ln pr le (i + 1) j : Int)) := funext (fun j => by
                rw [kL.out j]
                by_cases e : j = k
                · rw [if_pos e, if_pos e, ← HY.out.1, e]
                  rfl
                · rw [if_neg e, if_neg e])
              have e2 : (fun j => if j = k then Value.int .u64 mm else Value.int .u64 (mx pr le f j i)) = (fun j => Value.int .u64 (mx pr le f j (i + 1))) := funext (fun j => by
                rw [kM.out j]
                by_cases e : j = k
                · rw [if_pos e, if_pos e, ← HMM.out, ← HY.out.2, e]
                · rw [if_neg e, if_neg e])
              have h5 := blk_below hgl3.out hb
              have h6 := blk_below hgm3.out hb
              rw [e1] at h5
              rw [e2] at h6
              exact ⟨h5, h6, below_step hbd6.out hb⟩⟩
            have htk : tp = (k : Int) ∨ tp < 0 ∧ k = 0 := by
              split at hlt2 <;> omega
            have hm2 : ∀ W : World, (Builtin.max_ #[3, 3] 3 #[.int .i64 tp, .int .i64 0]).run Tryd.prog W = .ok (.int .i64 (k : Int)) W := fun W => by
              rcases htk with rfl | ⟨h5, rfl⟩
              · simp [Builtin.max_, Builtin.max2]
                omega
              · simp [Builtin.max_, Builtin.max2]
                omega
            have hix : ∀ w, (Instr.index 93 (.agg #[.int .i64 (dg (f i) 0), .int .i64 (dg (f i) 1), .int .i64 (dg (f i) 2), .int .i64 (dg (f i) 3), .int .i64 (dg (f i) 4), .int .i64 (dg (f i) 5), .int .i64 (dg (f i) 6), .int .i64 (dg (f i) 7), .int .i64 (dg (f i) 8), .int .i64 (dg (f i) 9), .int .i64 (dg (f i) 10)]) (.int .i64 (k : Int))).run Tryd.prog w = .ok (.int .i64 (s : Int)) w := fun w => by
              have h5 := run_index93 (f i) (k := k) (by omega) w
              rw [h5, HSS.out]
            have HD : Aside0 (tick_Digits.f 12 (f i) = some (dg (f i) 0, dg (f i) 1, dg (f i) 2, dg (f i) 3, dg (f i) 4, dg (f i) 5, dg (f i) 6, dg (f i) 7, dg (f i) 8, dg (f i) 9, dg (f i) 10)) := ⟨digits hui 0⟩
            clear htk hlt2 hit htp hll hlv10 hdr
            go_wp2_with (first
              | (go_at_call 34; refine (now_J hJd.out).mono ?_; rintro e we ⟨rfl, hbe⟩)
              | (go_at_call 51; refine (tick_Top.calls (f i) ck tp _ HTP.out (hJd.out.step hbe).tb.tab).mono ?_; rintro e wf ⟨rfl, hbf⟩)
              | (go_at_call 52; refine (tick_Digits.calls 12 (f i) _ _ _ _ _ _ _ _ _ _ _ _ HD.out).mono ?_; rintro e wg ⟨rfl, hbg⟩))
            go_roundg (n - (i + 1))
            case measure => omega
            case rel =>
              have h5 := hend.out _ (below_step (below_step hbe hbf) hbg)
              exact ⟨i + 1, by rw [kP]; go_num, by go_num, by omega, Nat.le_refl _, ⟨h5.1⟩, ⟨h5.2.1⟩, ⟨h5.2.2⟩⟩
          · have hk6 : k = 6 := by rw [hki.out, if_neg hl6]
            subst hk6
            have k46' : Aside0 (Calls Tryd.prog 46 #[ptr B, .int .i64 i] wr fun e w' => e = .returned (.tuple #[.complex .f64 13830554455654793216 4618441417868443648, .bool true]) ∧ Below wr.heap.size wr w') := ⟨by
              have h5 := k46.out
              rw [show placeO ck (some (f i)) = .complex .f64 13830554455654793216 4618441417868443648 from by
                show placeV ck (f i) = _
                unfold placeV
                rw [HLL.out, if_neg hl6]] at h5
              exact h5⟩
            clear k46
            have cv1 := fun w => run_convert_float_int (P := Tryd.prog) w 91 3 .f64 .i64 4618441417868443648 6 u91 u3 (by have h5 := fl_int 6 (by omega); rw [show ((6 : Nat) : Int) = 6 from rfl, fl_six] at h5; exact h5)
            have o1 : (FloatKind.f64.format.order 13830554455654793216 13830554455654793216 != some .eq) = false := by decide +kernel
            go_upto_region 22 with (first
              | (go_at_call 46; refine k46'.out.mono ?_; rintro e wa ⟨rfl, hba⟩)
              | (go_at_call 48; refine (k48.out wa hba).mono ?_; rintro e wb ⟨rfl, hbb⟩; have hr := hrest.out wb (below_step hba hbb); have c5 := hr.out.1))
            have hgl := Aside0.mk hr.out.2.1
            have hgm := Aside0.mk hr.out.2.2.1
            have hbb6 := Aside0.mk hr.out.2.2.2
            have q3 := (blk_cell hgl.out 6).trans HQ.out.1
            have q4 := blk_frozen hgl.out 6
            have hgl2 := blk_set hgl.out 6 (.int .i64 (y + 1))
            rw [v7_set _ hk7] at hgl2
            have hgl2 := Aside0.mk hgl2
            have fs := Fr.set wb w6.heap.size 6 (.int .i64 (y + 1))
            have hgm2 := Aside0.mk ((fs.blk (w6.heap.size + 1) (blk_lt hgm.out) (by omega)).trans hgm.out)
            have hbc6 := Aside0.mk (below_set (v := .int .i64 (y + 1)) (j := 6) hbb6.out (Nat.le_refl _))
            clear hr c5 fs
            go_upto_region 23 with (fail)
            generalize wb.setCell ⟨w6.heap.size, 6, none⟩ (.int .i64 (y + 1)) = wc at hgl2 hgm2 hbc6 ⊢
            clear q3 q4
            have q3 := (blk_cell hgm2.out 6).trans HQ.out.2
            have q4 := blk_frozen hgm2.out 6
            have hgm3 := blk_set hgm2.out 6 (.int .u64 (if z < f i then f i else z))
            rw [v7_set _ hk7] at hgm3
            have hgm3 := Aside0.mk hgm3
            have fs := Fr.set wc (w6.heap.size + 1) 6 (.int .u64 (if z < f i then f i else z))
            have hgl3 := Aside0.mk ((fs.blk w6.heap.size (blk_lt hgl2.out) (by omega)).trans hgl2.out)
            have hbd6 := Aside0.mk (below_set (v := .int .u64 (if z < f i then f i else z)) (j := 6) hbc6.out (Nat.le_succ _))
            clear fs
            obtain ⟨mm, hmm⟩ : ∃ mm, (if z < f i then f i else z) = mm := ⟨_, rfl⟩
            have HMM := Aside0.mk hmm
            rw [hmm] at hmx hgm3 hgl3 hbd6
            clear hmm
            go_upto_region 24 with (fail)
            generalize wc.setCell ⟨w6.heap.size + 1, 6, none⟩ (.int .u64 mm) = wd at hgl3 hgm3 hbd6 ⊢
            clear q3 q4 hmx
            have hJd := Aside0.mk (hG.out.wj.step hbd6.out)
            obtain ⟨tp, htp, hit⟩ := top hui hun
            have hlt2 := lv_top hui hun hit
            rw [hll] at hlt2
            have HTP := Aside0.mk htp
            have hend : Aside0 (∀ w, Below wd.heap.size wd w → w.heap[w6.heap.size]? = some (.cells (v7 (fun k => .int .i64 (ln pr le (i + 1) k))) 74 (0, 0)) ∧ w.heap[w6.heap.size + 1]? = some (.cells (v7 (fun k => .int .u64 (mx pr le f k (i + 1)))) 90 (0, 0)) ∧ Below w6.heap.size w6 w) := ⟨fun w hb => by
              have e1 : (fun j => if j = 6 then Value.int .i64 (y + 1) else Value.int .i64 (ln pr le i j : Int)) = (fun j => Value.int .i64 (ln pr le (i + 1) j : Int)) := funext (fun j => by
                rw [kL.out j]
                by_cases e : j = 6
                · rw [if_pos e, if_pos e, ← HY.out.1, e]
                  rfl
                · rw [if_neg e, if_neg e])
              have e2 : (fun j => if j = 6 then Value.int .u64 mm else Value.int .u64 (mx pr le f j i)) = (fun j => Value.int .u64 (mx pr le f j (i + 1))) := funext (fun j => by
                rw [kM.out j]
                by_cases e : j = 6
                · rw [if_pos e, if_pos e, ← HMM.out, ← HY.out.2, e]
                · rw [if_neg e, if_neg e])
              have h5 := blk_below hgl3.out hb
              have h6 := blk_below hgm3.out hb
              rw [e1] at h5
              rw [e2] at h6
              exact ⟨h5, h6, below_step hbd6.out hb⟩⟩
            have htk : ¬ tp < 6 := by
              split at hlt2 <;> omega
            clear hlt2 hit htp hll hlv10 hdr
            go_wp2_with (first
              | (go_at_call 34; refine (now_J hJd.out).mono ?_; rintro e we ⟨rfl, hbe⟩)
              | (go_at_call 51; refine (tick_Top.calls (f i) ck tp _ HTP.out (hJd.out.step hbe).tb.tab).mono ?_; rintro e wf ⟨rfl, hbf⟩))
            go_roundg (n - (i + 1))
            case measure => omega
            case rel =>
              have h5 := hend.out _ (below_step hbe hbf)
              exact ⟨i + 1, by rw [kP]; go_num, by go_num, by omega, Nat.le_refl _, ⟨h5.1⟩, ⟨h5.2.1⟩, ⟨h5.2.2⟩⟩
      · obtain rfl : i = n := by omega
        have hi1 : ¬ (i : Int) < (i : Int) := by omega
        have hJr := Aside0.mk (hG.out.wj.step hB.out)
        have hpl := Aside0.mk (pn_le (pr := pr) i)
        go_upto_region 26 with (fail)
        have HB0 := Aside0.mk (Below.refl wr.heap.size wr)
        go_wp2
        obtain ⟨wo, hwo⟩ : ∃ wo, wr = wo := ⟨_, rfl⟩
        rw [hwo] at hL hM hB hJr HB0 ⊢
        clear hwo
        go_loopg [21] i (fun gk2 v21 wr2 => ∃ j : Nat, v21 = .int .i64 j ∧ j ≤ i ∧ i - j ≤ gk2 ∧ Aside0 (Below wo.heap.size wo wr2))
        case atStart => exact ⟨0, rfl, Nat.zero_le _, by omega, HB0⟩
        case round =>
          obtain ⟨j, rfl, hj, hgk2, hB2⟩ := hrel
          by_cases hlt2 : j < i
          · have hj0 : (0 : Int) ≤ (j : Int) := by omega
            have hj1 : (j : Int) < (i : Int) := by omega
            have hJ2 := Aside0.mk (hJr.out.step hB2.out)
            cases hp : pr j with
            | false =>
              have ht : tof V (j : Int) = none := Part.no (by rw [HPR.out.1]; exact hp)
              have k46 := Aside0.mk (place_J hJ2.out (j : Int) (wf_sm (by omega) (by omega)) none ht)
              clear ht hp
              go_wp2_with (go_at_call 46; refine k46.out.mono ?_; rintro e wa ⟨rfl, hba⟩)
              go_loopg [24] 1 (fun gk3 v24 wr3 => v24 = .int .i64 0 ∧ wr3 = wa)
              case atStart => exact ⟨rfl, rfl⟩
              case round =>
                obtain ⟨rfl, rfl⟩ := hrel
                go_wp2
                go_roundg (i - (j + 1))
                case measure => omega
                case rel => exact ⟨j + 1, by go_num, by omega, Nat.le_refl _, ⟨below_step hB2.out hba⟩⟩
            | true =>
              have hp2 : prs V j = true := by rw [HPR.out.1]; exact hp
              obtain ⟨ht, hin⟩ := hG.out.pt.at_ hp2
              have k46 := Aside0.mk (place_J hJ2.out (j : Int) (wf_sm (by omega) (by omega)) (some (f j)) ht)
              have hui := hG.out.uf j hlt2
              have hun := hG.out.wj.tt.un
              obtain ⟨l, hll⟩ : ∃ l, lv (f j) ck = l := ⟨_, rfl⟩
              have HLL := Aside0.mk hll
              have hki : le j = if l < 6 then l else 6 := by rw [← HPR.out.2]; unfold lev; rw [hll]
              have hmst : Aside0 (∀ k, k < le j → 0 < ln pr le i k → mx pr le f k i < f j) := ⟨fun k h1 h2 => by
                have h3 := hG.out.pt.most hG.out.wj.tt (i := j) (k := k) hp2
                rw [HPR.out.1, HPR.out.2] at h3
                exact h3 h1 h2⟩
              obtain ⟨ad, e1, hcell⟩ := HRd.out.2.2 (by omega)
              subst e1
              have hci := hcell j hlt2
              rw [show ((List.range i).map f).getD j 0 = f j from by simp [List.getD_eq_getElem?_getD, hlt2]] at hci
              have HCI := Aside0.mk hci
              have u91 : (Tryd.prog.underlying 91).isSome = true := by rw [Tryd.underlying91]; rfl
              have u3 : Tryd.prog.underlying 3 = some (.int .i64) := Tryd.underlying3
              clear hcell hci ht hin hp2 hp hll hui hun
              by_cases hl6 : l < 6
              · rw [if_pos hl6] at hki
                have cv1 := fun w => run_convert_float_int (P := Tryd.prog) w 91 3 .f64 .i64 (fl l) l u91 u3 (fl_int l (by omega))
                have k46' : Aside0 (Calls Tryd.prog 46 #[ptr B, .int .i64 j] wr fun e w' => e = .returned (.tuple #[.complex .f64 (fl (dg (f j) l)) (fl l), .bool true]) ∧ Below wr.heap.size wr w') := ⟨by
                  have h5 := k46.out
                  rw [show placeO ck (some (f j)) = .complex .f64 (fl (dg (f j) l)) (fl l) from by
                    show placeV ck (f j) = _
                    unfold placeV
                    rw [HLL.out, if_pos hl6]] at h5
                  exact h5⟩
                rw [hki] at hmst
                clear k46 hki
                go_wp2_with (go_at_call 46; refine k46'.out.mono ?_; rintro e wa ⟨rfl, hba⟩)
                go_loopg [24] 7 (fun gk3 v24 wr3 => ∃ k : Nat, v24 = .int .i64 k ∧ k ≤ l ∧ 7 - k ≤ gk3 ∧ Aside0 (Below wa.heap.size wa wr3))
                case atStart => exact ⟨0, rfl, Nat.zero_le _, by omega, ⟨Below.refl _ _⟩⟩
                case round =>
                  obtain ⟨k, rfl, hk, hgk3, hB3⟩ := hrel
                  by_cases hlt3 : k < l
                  · have hk0 : (0 : Int) ≤ (k : Int) := by omega
                    have hk1 : (k : Int) < (l : Int) := by omega
                    have hk7 : k < 7 := by omega
                    have hk71 : (k : Int) < 7 := by omega
                    obtain ⟨y, hy⟩ : ∃ y : Int, (ln pr le i k : Int) = y := ⟨_, rfl⟩
                    obtain ⟨z, hz⟩ : ∃ z : Int, mx pr le f k i = z := ⟨_, rfl⟩
                    have h5 := below_step (below_step hB2.out hba) hB3.out
                    have q1 : wr.cell? ⟨w6.heap.size, k, none⟩ = some (.int .i64 y) := ((blk_cell (blk_below hL.out h5) k).trans (v7_at _ hk7)).trans (by rw [hy])
                    have q2 : wr.cell? ⟨w6.heap.size + 1, k, none⟩ = some (.int .u64 z) := ((blk_cell (blk_below hM.out h5) k).trans (v7_at _ hk7)).trans (by rw [hz])
                    have h6 := below_step hB.out h5
                    have q3 : wr.cell? (ad.add j) = some (.int .u64 (f j)) := (h6.cell (World.block_lt_of_cell? w6 _ HCI.out)).trans HCI.out
                    have hmost : 0 < y → ¬ f j ≤ z := fun h7 => by
                      have h8 := hmst.out k hlt3 (by omega)
                      rw [hz] at h8
                      omega
                    have HYZ := Aside0.mk (And.intro hy hz)
                    clear hy hz h5 h6
                    go_upto_region 33 with (fail)
                    by_cases hy0 : 0 < y
                    · have hmo := hmost hy0
                      clear hmost
                      go_quiet (fail)
                      go_wp2
                      go_roundg (7 - (k + 1))
                      case measure => omega
                      case rel => exact ⟨k + 1, by go_num, by omega, Nat.le_refl _, ⟨by repeat (first | exact hB3.out | apply pw_below_drewN | apply below_drew1)⟩⟩
                    · clear hmost
                      go_quiet (fail)
                      go_wp2
                      go_roundg (7 - (k + 1))
                      case measure => omega
                      case rel => exact ⟨k + 1, by go_num, by omega, Nat.le_refl _, ⟨by repeat (first | exact hB3.out | apply pw_below_drewN | apply below_drew1)⟩⟩
                  · obtain rfl : k = l := by omega
                    have hk1 : ¬ (k : Int) < (k : Int) := by omega
                    go_wp2
                    go_roundg (i - (j + 1))
                    case measure => omega
                    case rel => exact ⟨j + 1, by go_num, by omega, Nat.le_refl _, ⟨below_step hB2.out (below_step hba hB3.out)⟩⟩
              · rw [if_neg hl6] at hki
                have cv1 := fun w => run_convert_float_int (P := Tryd.prog) w 91 3 .f64 .i64 4618441417868443648 6 u91 u3 (by have h5 := fl_int 6 (by omega); rw [show ((6 : Nat) : Int) = 6 from rfl, fl_six] at h5; exact h5)
                have k46' : Aside0 (Calls Tryd.prog 46 #[ptr B, .int .i64 j] wr fun e w' => e = .returned (.tuple #[.complex .f64 13830554455654793216 4618441417868443648, .bool true]) ∧ Below wr.heap.size wr w') := ⟨by
                  have h5 := k46.out
                  rw [show placeO ck (some (f j)) = .complex .f64 13830554455654793216 4618441417868443648 from by
                    show placeV ck (f j) = _
                    unfold placeV
                    rw [HLL.out, if_neg hl6]] at h5
                  exact h5⟩
                rw [hki] at hmst
                clear k46 hki
                go_wp2_with (go_at_call 46; refine k46'.out.mono ?_; rintro e wa ⟨rfl, hba⟩)
                go_loopg [24] 7 (fun gk3 v24 wr3 => ∃ k : Nat, v24 = .int .i64 k ∧ k ≤ 6 ∧ 7 - k ≤ gk3 ∧ Aside0 (Below wa.heap.size wa wr3))
                case atStart => exact ⟨0, rfl, Nat.zero_le _, by omega, ⟨Below.refl _ _⟩⟩
                case round =>
                  obtain ⟨k, rfl, hk, hgk3, hB3⟩ := hrel
                  by_cases hlt3 : k < 6
                  · have hk0 : (0 : Int) ≤ (k : Int) := by omega
                    have hk1 : (k : Int) < (6 : Int) := by omega
                    have hk7 : k < 7 := by omega
                    have hk71 : (k : Int) < 7 := by omega
                    obtain ⟨y, hy⟩ : ∃ y : Int, (ln pr le i k : Int) = y := ⟨_, rfl⟩
                    obtain ⟨z, hz⟩ : ∃ z : Int, mx pr le f k i = z := ⟨_, rfl⟩
                    have h5 := below_step (below_step hB2.out hba) hB3.out
                    have q1 : wr.cell? ⟨w6.heap.size, k, none⟩ = some (.int .i64 y) := ((blk_cell (blk_below hL.out h5) k).trans (v7_at _ hk7)).trans (by rw [hy])
                    have q2 : wr.cell? ⟨w6.heap.size + 1, k, none⟩ = some (.int .u64 z) := ((blk_cell (blk_below hM.out h5) k).trans (v7_at _ hk7)).trans (by rw [hz])
                    have h6 := below_step hB.out h5
                    have q3 : wr.cell? (ad.add j) = some (.int .u64 (f j)) := (h6.cell (World.block_lt_of_cell? w6 _ HCI.out)).trans HCI.out
                    have hmost : 0 < y → ¬ f j ≤ z := fun h7 => by
                      have h8 := hmst.out k hlt3 (by omega)
                      rw [hz] at h8
                      omega
                    have HYZ := Aside0.mk (And.intro hy hz)
                    clear hy hz h5 h6
                    go_upto_region 33 with (fail)
                    by_cases hy0 : 0 < y
                    · have hmo := hmost hy0
                      clear hmost
                      go_quiet (fail)
                      go_wp2
                      go_roundg (7 - (k + 1))
                      case measure => omega
                      case rel => exact ⟨k + 1, by go_num, by omega, Nat.le_refl _, ⟨by repeat (first | exact hB3.out | apply pw_below_drewN | apply below_drew1)⟩⟩
                    · clear hmost
                      go_quiet (fail)
                      go_wp2
                      go_roundg (7 - (k + 1))
                      case measure => omega
                      case rel => exact ⟨k + 1, by go_num, by omega, Nat.le_refl _, ⟨by repeat (first | exact hB3.out | apply pw_below_drewN | apply below_drew1)⟩⟩
                  · obtain rfl : k = 6 := by omega
                    have hk1 : ¬ (6 : Int) < (6 : Int) := by omega
                    go_wp2
                    go_roundg (i - (j + 1))
                    case measure => omega
                    case rel => exact ⟨j + 1, by go_num, by omega, Nat.le_refl _, ⟨below_step hB2.out (below_step hba hB3.out)⟩⟩
          -- end begins
          · obtain rfl : i = j := by omega
            have hj1 : ¬ (i : Int) < (i : Int) := by omega
            have hlen := hG.out.len
            have her := hG.out.er
            have hpn := hG.out.pt.len
            rw [HPR.out.1] at hpn
            obtain ⟨q, hq⟩ : ∃ q : Nat, D.length = q := ⟨_, rfl⟩
            have hJ2 := Aside0.mk (hJr.out.step hB2.out)
            have k37 : Aside0 (∀ w, Below wr.heap.size wr w → Calls Tryd.prog 37 #[ptr B] w fun e w' => e = .returned (.int .i64 ((i : Int) - (q : Int))) ∧ Below w.heap.size w w') := ⟨fun w hb => by
              have h5 := Wh.len_J (hJ2.out.step hb)
              rw [show ((V.length : Nat) : Int) = (i : Int) - (q : Int) by omega] at h5
              exact h5⟩
            have hP : ((pn pr i : Nat) : Int) = (i : Int) - (q : Int) := by omega
            obtain ⟨c, hc⟩ : ∃ c : Nat → Int, (fun k => ((ln pr le i k : Nat) : Int)) = c := ⟨_, rfl⟩
            have hcl : ∀ k, k < 7 → loadF ck V k = c k := fun k hk => by
              have h5 := hG.out.pt.load (ck := ck) k hk
              rw [HPR.out.1, HPR.out.2] at h5
              rw [h5, ← hc]
            have k40 : Aside0 (∀ w, Below wr.heap.size wr w → Calls Tryd.prog 40 #[ptr B] w fun e w' => e = .returned (.agg #[.int .i64 (c 0), .int .i64 (c 1), .int .i64 (c 2), .int .i64 (c 3), .int .i64 (c 4), .int .i64 (c 5), .int .i64 (c 6)]) ∧ Below w.heap.size w w') := ⟨fun w hb => by
              have h5 := load_J (hJ2.out.step hb)
              rw [show lcells (loadF ck V) 7 = #[.int .i64 (c 0), .int .i64 (c 1), .int .i64 (c 2), .int .i64 (c 3), .int .i64 (c 4), .int .i64 (c 5), .int .i64 (c 6)] from by
                rw [← hcl 0 (by omega), ← hcl 1 (by omega), ← hcl 2 (by omega), ← hcl 3 (by omega), ← hcl 4 (by omega), ← hcl 5 (by omega), ← hcl 6 (by omega)]
                rfl] at h5
              exact h5⟩
            have k30 : Aside0 (∀ w, Below wr.heap.size wr w → Calls Tryd.prog 30 #[] w fun e w' => e = .returned (.bool true) ∧ Below w.heap.size w w') := ⟨fun w hb => wakes6 w (hJ2.out.step hb).tb.tab⟩
            have h74 : ∀ w, (Op.equalIn 10000 74 (.agg #[.int .i64 (c 0), .int .i64 (c 1), .int .i64 (c 2), .int .i64 (c 3), .int .i64 (c 4), .int .i64 (c 5), .int .i64 (c 6)]) (.agg #[.int .i64 (c 0), .int .i64 (c 1), .int .i64 (c 2), .int .i64 (c 3), .int .i64 (c 4), .int .i64 (c 5), .int .i64 (c 6)])).run Tryd.prog w = .ok true w := fun w => eq74 _ _ _ _ _ _ _ w
            have g74 := guard74
            have hcells := Aside0.mk (blk_below hL.out hB2.out)
            have kp : Aside0 (∀ w', Below wr.heap.size wr w' → (fun w' => w'.cell? ⟨w6.heap.size, 0, none⟩ = some (.int .i64 (c 0)) ∧ w'.cell? ⟨w6.heap.size, 1, none⟩ = some (.int .i64 (c 1)) ∧ w'.cell? ⟨w6.heap.size, 2, none⟩ = some (.int .i64 (c 2)) ∧ w'.cell? ⟨w6.heap.size, 3, none⟩ = some (.int .i64 (c 3)) ∧ w'.cell? ⟨w6.heap.size, 4, none⟩ = some (.int .i64 (c 4)) ∧ w'.cell? ⟨w6.heap.size, 5, none⟩ = some (.int .i64 (c 5)) ∧ w'.cell? ⟨w6.heap.size, 6, none⟩ = some (.int .i64 (c 6))) w') := ⟨fun w' hb => by
              have g := blk_below hcells.out hb
              have hck : ∀ k, ((ln pr le i k : Nat) : Int) = c k := fun k => congrFun hc k
              exact ⟨((blk_cell g 0).trans (v7_at _ (by omega))).trans (by rw [hck]), ((blk_cell g 1).trans (v7_at _ (by omega))).trans (by rw [hck]), ((blk_cell g 2).trans (v7_at _ (by omega))).trans (by rw [hck]), ((blk_cell g 3).trans (v7_at _ (by omega))).trans (by rw [hck]), ((blk_cell g 4).trans (v7_at _ (by omega))).trans (by rw [hck]), ((blk_cell g 5).trans (v7_at _ (by omega))).trans (by rw [hck]), ((blk_cell g 6).trans (v7_at _ (by omega))).trans (by rw [hck])⟩⟩
            have hbD := Aside0.mk (below_drew1 (Below.refl wr.heap.size wr))
            have hBW := Aside0.mk (below_step hbW.out (below_step (below_step hG.out.bel hB.out) hB2.out))
            clear hcl hc hpn hcells
            have hwr : IntKind.i64.wrap ((i : Int) - (q : Int)) = (i : Int) - (q : Int) := by rw [i64_w]; unfold wrap64; omega
            have hbq : (((i : Int) - (q : Int)) == ((i : Int) - (q : Int))) = true := beq_self_eq_true _
            go_upto_region 35 with (fail)
            rw [hP, hq]
            clear hP
            by_cases he0 : er = 0
            · subst he0
              clear hlen hq her
              refine start_ (n := 32) (S := (fun w' => w'.cell? ⟨w6.heap.size, 0, none⟩ = some (.int .i64 (c 0)) ∧ w'.cell? ⟨w6.heap.size, 1, none⟩ = some (.int .i64 (c 1)) ∧ w'.cell? ⟨w6.heap.size, 2, none⟩ = some (.int .i64 (c 2)) ∧ w'.cell? ⟨w6.heap.size, 3, none⟩ = some (.int .i64 (c 3)) ∧ w'.cell? ⟨w6.heap.size, 4, none⟩ = some (.int .i64 (c 4)) ∧ w'.cell? ⟨w6.heap.size, 5, none⟩ = some (.int .i64 (c 5)) ∧ w'.cell? ⟨w6.heap.size, 6, none⟩ = some (.int .i64 (c 6)))) (ds := []) #[false, false, false, false, false, false, false, false, false, false, false, false, false, false, false, false, false, false, false, false, false, false, false, false, false, false, false, false, false, false, false, false] (by kernel_rfl) rfl rfl (kp.out _ hbD.out) (fun hHeld => ?_)
              refine pure_ (i := 0) (N := some 174) (v := ?_) (a' := ?_) #[true, false, false, false, false, false, false, false, false, false, false, false, false, false, false, false, false, false, false, false, false, false, false, false, false, false, false, false, false, false, false, false] rfl rfl (by kernel_rfl) (fun _ _ _ h => h) (Or.inl ⟨by rfl, ?_⟩) ?_ ?_
              rotate_left
              · intro w'
                go_simp
                with_reducible rfl
              rotate_left
              · simp only [Act.put, List.setIfInBounds_toArray, List.set_cons_zero, List.set_cons_succ]
                rfl
              refine pure_ (i := 1) (N := some 175) (v := ?_) (a' := ?_) #[true, true, false, false, false, false, false, false, false, false, false, false, false, false, false, false, false, false, false, false, false, false, false, false, false, false, false, false, false, false, false, false] rfl rfl (by kernel_rfl) (fun _ _ _ h => h) (Or.inl ⟨by rfl, ?_⟩) ?_ ?_
              rotate_left
              · intro w'
                go_simp
                with_reducible rfl
              rotate_left
              · simp only [Act.put, List.setIfInBounds_toArray, List.set_cons_zero, List.set_cons_succ]
                rfl
              refine pure_ (i := 2) (N := some 176) (v := ?_) (a' := ?_) #[true, true, true, false, false, false, false, false, false, false, false, false, false, false, false, false, false, false, false, false, false, false, false, false, false, false, false, false, false, false, false, false] rfl rfl (by kernel_rfl) (fun _ _ _ h => h) (Or.inl ⟨by rfl, ?_⟩) ?_ ?_
              rotate_left
              · intro w'
                go_simp
                with_reducible rfl
              rotate_left
              · simp only [Act.put, List.setIfInBounds_toArray, List.set_cons_zero, List.set_cons_succ]
                rfl
              refine pure_ (i := 3) (N := some 177) (v := undef) (a' := ?_) #[true, true, true, true, false, false, false, false, false, false, false, false, false, false, false, false, false, false, false, false, false, false, false, false, false, false, false, false, false, false, false, false] rfl rfl (by kernel_rfl) (fun _ _ _ h => h) (Or.inr ⟨by rfl, rfl⟩) ?_ ?_
              rotate_left
              · simp only [Act.put, List.setIfInBounds_toArray, List.set_cons_zero, List.set_cons_succ]
                rfl
              refine pure_ (i := 4) (N := some 178) (v := undef) (a' := ?_) #[true, true, true, true, true, false, false, false, false, false, false, false, false, false, false, false, false, false, false, false, false, false, false, false, false, false, false, false, false, false, false, false] rfl rfl (by kernel_rfl) (fun _ _ _ h => h) (Or.inr ⟨by rfl, rfl⟩) ?_ ?_
              rotate_left
              · simp only [Act.put, List.setIfInBounds_toArray, List.set_cons_zero, List.set_cons_succ]
                rfl
              refine pure_ (i := 5) (N := some 179) (v := undef) (a' := ?_) #[true, true, true, true, true, true, false, false, false, false, false, false, false, false, false, false, false, false, false, false, false, false, false, false, false, false, false, false, false, false, false, false] rfl rfl (by kernel_rfl) (fun _ _ _ h => h) (Or.inr ⟨by rfl, rfl⟩) ?_ ?_
              rotate_left
              · simp only [Act.put, List.setIfInBounds_toArray, List.set_cons_zero, List.set_cons_succ]
                rfl
              refine pure_ (i := 6) (N := some 180) (v := ?_) (a' := ?_) #[true, true, true, true, true, true, true, false, false, false, false, false, false, false, false, false, false, false, false, false, false, false, false, false, false, false, false, false, false, false, false, false] rfl rfl (by kernel_rfl) (fun _ _ _ h => h) (Or.inl ⟨by rfl, ?_⟩) ?_ ?_
              rotate_left
              · intro w'
                go_simp
                with_reducible rfl
              rotate_left
              · simp only [Act.put, List.setIfInBounds_toArray, List.set_cons_zero, List.set_cons_succ]
                rfl
              refine pure_ (i := 7) (N := some 181) (v := ?_) (a' := ?_) #[true, true, true, true, true, true, true, true, false, false, false, false, false, false, false, false, false, false, false, false, false, false, false, false, false, false, false, false, false, false, false, false] rfl rfl (by kernel_rfl) (fun _ _ _ h => h) (Or.inl ⟨by rfl, ?_⟩) ?_ ?_
              rotate_left
              · intro w'
                go_simp
                with_reducible rfl
              rotate_left
              · simp only [Act.put, List.setIfInBounds_toArray, List.set_cons_zero, List.set_cons_succ]
                rfl
              refine pure_ (i := 8) (N := some 182) (v := ?_) (a' := ?_) #[true, true, true, true, true, true, true, true, true, false, false, false, false, false, false, false, false, false, false, false, false, false, false, false, false, false, false, false, false, false, false, false] rfl rfl (by kernel_rfl) (fun _ _ _ h => h) (Or.inl ⟨by rfl, ?_⟩) ?_ ?_
              rotate_left
              · intro w'
                go_simp
                with_reducible rfl
              rotate_left
              · simp only [Act.put, List.setIfInBounds_toArray, List.set_cons_zero, List.set_cons_succ]
                rfl
              refine pure_ (i := 9) (N := some 183) (v := ?_) (a' := ?_) #[true, true, true, true, true, true, true, true, true, true, false, false, false, false, false, false, false, false, false, false, false, false, false, false, false, false, false, false, false, false, false, false] rfl rfl (by kernel_rfl) (fun _ _ _ h => h) (Or.inl ⟨by rfl, ?_⟩) ?_ ?_
              rotate_left
              · intro w'
                go_simp
                with_reducible rfl
              rotate_left
              · simp only [Act.put, List.setIfInBounds_toArray, List.set_cons_zero, List.set_cons_succ]
                rfl
              refine pure_ (i := 10) (N := some 184) (v := ?_) (a' := ?_) #[true, true, true, true, true, true, true, true, true, true, true, false, false, false, false, false, false, false, false, false, false, false, false, false, false, false, false, false, false, false, false, false] rfl rfl (by kernel_rfl) (fun _ _ _ h => h) (Or.inl ⟨by rfl, ?_⟩) ?_ ?_
              rotate_left
              · intro w'
                go_simp
                with_reducible rfl
              rotate_left
              · simp only [Act.put, List.setIfInBounds_toArray, List.set_cons_zero, List.set_cons_succ]
                rfl
              refine pure_ (i := 11) (N := some 185) (v := ?_) (a' := ?_) #[true, true, true, true, true, true, true, true, true, true, true, true, false, false, false, false, false, false, false, false, false, false, false, false, false, false, false, false, false, false, false, false] rfl rfl (by kernel_rfl) (fun _ _ _ h => h) (Or.inl ⟨by rfl, ?_⟩) ?_ ?_
              rotate_left
              · intro w'
                go_simp
                with_reducible rfl
              rotate_left
              · simp only [Act.put, List.setIfInBounds_toArray, List.set_cons_zero, List.set_cons_succ]
                rfl
              refine pure_ (i := 12) (N := some 186) (v := ?_) (a' := ?_) #[true, true, true, true, true, true, true, true, true, true, true, true, true, false, false, false, false, false, false, false, false, false, false, false, false, false, false, false, false, false, false, false] rfl rfl (by kernel_rfl) (fun _ _ _ h => h) (Or.inl ⟨by rfl, ?_⟩) ?_ ?_
              rotate_left
              · intro w'
                go_simp
                with_reducible rfl
              rotate_left
              · simp only [Act.put, List.setIfInBounds_toArray, List.set_cons_zero, List.set_cons_succ]
                rfl
              refine pure_ (i := 13) (N := some 187) (v := ?_) (a' := ?_) #[true, true, true, true, true, true, true, true, true, true, true, true, true, true, false, false, false, false, false, false, false, false, false, false, false, false, false, false, false, false, false, false] rfl rfl (by kernel_rfl) (fun _ _ _ h => h) (Or.inl ⟨by rfl, ?_⟩) ?_ ?_
              rotate_left
              · intro w'
                go_simp
                with_reducible rfl
              rotate_left
              · simp only [Act.put, List.setIfInBounds_toArray, List.set_cons_zero, List.set_cons_succ]
                rfl
              refine pure_ (i := 14) (N := some 188) (v := ?_) (a' := ?_) #[true, true, true, true, true, true, true, true, true, true, true, true, true, true, true, false, false, false, false, false, false, false, false, false, false, false, false, false, false, false, false, false] rfl rfl (by kernel_rfl) (fun _ _ _ h => h) (Or.inl ⟨by rfl, ?_⟩) ?_ ?_
              rotate_left
              · intro w'
                go_simp
                with_reducible rfl
              rotate_left
              · simp only [Act.put, List.setIfInBounds_toArray, List.set_cons_zero, List.set_cons_succ]
                rfl
              refine pure_ (i := 15) (N := some 189) (v := ?_) (a' := ?_) #[true, true, true, true, true, true, true, true, true, true, true, true, true, true, true, true, false, false, false, false, false, false, false, false, false, false, false, false, false, false, false, false] rfl rfl (by kernel_rfl) (fun _ _ _ h => h) (Or.inl ⟨by rfl, ?_⟩) ?_ ?_
              rotate_left
              · intro w'
                go_simp
                with_reducible rfl
              rotate_left
              · simp only [Act.put, List.setIfInBounds_toArray, List.set_cons_zero, List.set_cons_succ]
                rfl
              refine pure_ (i := 16) (N := some 190) (v := ?_) (a' := ?_) #[true, true, true, true, true, true, true, true, true, true, true, true, true, true, true, true, true, false, false, false, false, false, false, false, false, false, false, false, false, false, false, false] rfl rfl (by kernel_rfl) (fun _ _ _ h => h) (Or.inl ⟨by rfl, ?_⟩) ?_ ?_
              rotate_left
              · intro w'
                go_simp
                with_reducible rfl
              rotate_left
              · simp only [Act.put, List.setIfInBounds_toArray, List.set_cons_zero, List.set_cons_succ]
                rfl
              refine pure_ (i := 17) (N := some 191) (v := ?_) (a' := ?_) #[true, true, true, true, true, true, true, true, true, true, true, true, true, true, true, true, true, true, false, false, false, false, false, false, false, false, false, false, false, false, false, false] rfl rfl (by kernel_rfl) (fun _ _ _ h => h) (Or.inl ⟨by rfl, ?_⟩) ?_ ?_
              rotate_left
              · intro w'
                go_simp
                with_reducible rfl
              rotate_left
              · simp only [Act.put, List.setIfInBounds_toArray, List.set_cons_zero, List.set_cons_succ]
                rfl
              refine pure_ (i := 19) (N := some 193) (v := ?_) (a' := ?_) #[true, true, true, true, true, true, true, true, true, true, true, true, true, true, true, true, true, true, false, true, false, false, false, false, false, false, false, false, false, false, false, false] rfl rfl (by kernel_rfl) (fun _ _ _ h => h) (Or.inl ⟨by rfl, ?_⟩) ?_ ?_
              rotate_left
              · intro w'
                go_simp
                with_reducible rfl
              rotate_left
              · simp only [Act.put, List.setIfInBounds_toArray, List.set_cons_zero, List.set_cons_succ]
                rfl
              refine one_ (i := 18) (N := some 192) #[true, true, true, true, true, true, true, true, true, true, true, true, true, true, true, true, true, true, true, true, false, false, false, false, false, false, false, false, false, false, false, false] rfl rfl (by kernel_rfl) (by decide) (fun K hK => ?_)
              refine goes_ Tryd.func37 (by kernel_rfl) rfl #[ptr B] (by rfl) rfl rfl (by simp only [List.map_toArray, List.map_cons, List.map_nil]; rfl) ?_
              refine (k37.out _ hbD.out).mono ?_
              rintro e w37 ⟨rfl, hb37⟩
              have hB37 := Aside0.mk (below_step hbD.out hb37)
              clear hb37
              refine ⟨_, rfl, ?_⟩
              refine hK.out _ _ (kp.out _ hB37.out) (fun hHeld => ?_)
              clear hK K
              refine norm_ (a' := ?_) ?_ ?_
              rotate_left
              · show Act.put _ (some 192) _ = _
                simp only [Act.put, List.setIfInBounds_toArray, List.set_cons_zero, List.set_cons_succ]
                rfl
              refine pure_ (i := 20) (N := some 194) (v := ?_) (a' := ?_) #[true, true, true, true, true, true, true, true, true, true, true, true, true, true, true, true, true, true, true, true, true, false, false, false, false, false, false, false, false, false, false, false] rfl rfl (by kernel_rfl) (fun _ _ _ h => h) (Or.inl ⟨by rfl, ?_⟩) ?_ ?_
              rotate_left
              · intro w'
                go_simp
                with_reducible rfl
              rotate_left
              · simp only [Act.put, List.setIfInBounds_toArray, List.set_cons_zero, List.set_cons_succ]
                rfl
              refine pure_ (i := 21) (N := some 195) (v := ?_) (a' := ?_) #[true, true, true, true, true, true, true, true, true, true, true, true, true, true, true, true, true, true, true, true, true, true, false, false, false, false, false, false, false, false, false, false] rfl rfl (by kernel_rfl) (fun _ _ _ h => h) (Or.inl ⟨by rfl, ?_⟩) ?_ ?_
              rotate_left
              · intro w'
                go_simp
                with_reducible rfl
              rotate_left
              · simp only [Act.put, List.setIfInBounds_toArray, List.set_cons_zero, List.set_cons_succ]
                rfl
              refine pure_ (i := 22) (N := some 196) (v := ?_) (a' := ?_) #[true, true, true, true, true, true, true, true, true, true, true, true, true, true, true, true, true, true, true, true, true, true, true, false, false, false, false, false, false, false, false, false] rfl rfl (by kernel_rfl) (fun _ _ _ h => h) (Or.inl ⟨by rfl, ?_⟩) ?_ ?_
              rotate_left
              · intro w'
                go_simp
                with_reducible rfl
              rotate_left
              · simp only [Act.put, List.setIfInBounds_toArray, List.set_cons_zero, List.set_cons_succ]
                rfl
              refine pure_ (i := 23) (N := some 197) (v := ?_) (a' := ?_) #[true, true, true, true, true, true, true, true, true, true, true, true, true, true, true, true, true, true, true, true, true, true, true, true, false, false, false, false, false, false, false, false] rfl rfl (by kernel_rfl) (fun _ _ _ h => h) (Or.inl ⟨by rfl, ?_⟩) ?_ ?_
              rotate_left
              · intro w'
                go_simp
                with_reducible rfl
              rotate_left
              · simp only [Act.put, List.setIfInBounds_toArray, List.set_cons_zero, List.set_cons_succ]
                rfl
              refine take_ (i := 25) (N := some 199) (v := ?_) (a' := ?_) #[true, true, true, true, true, true, true, true, true, true, true, true, true, true, true, true, true, true, true, true, true, true, true, true, false, true, false, false, false, false, false, false] rfl rfl (by kernel_rfl) (fun _ _ _ h => h) (Or.inl ⟨by rfl, ?_⟩) hHeld ?_ ?_
              rotate_left
              · rintro w' ⟨s0, s1, s2, s3, s4, s5, s6⟩
                go_simp
                with_reducible rfl
              rotate_left
              · simp only [Act.put, List.setIfInBounds_toArray, List.set_cons_zero, List.set_cons_succ]
                rfl
              refine one_ (i := 24) (N := some 198) #[true, true, true, true, true, true, true, true, true, true, true, true, true, true, true, true, true, true, true, true, true, true, true, true, true, true, false, false, false, false, false, false] rfl rfl (by kernel_rfl) (by decide) (fun K hK => ?_)
              refine goes_ Tryd.func40 (by kernel_rfl) rfl #[ptr B] (by rfl) rfl rfl (by simp only [List.map_toArray, List.map_cons, List.map_nil]; rfl) ?_
              refine (k40.out _ hB37.out).mono ?_
              rintro e w40 ⟨rfl, hb40⟩
              have hB40 := Aside0.mk (below_step hB37.out hb40)
              clear hb40
              refine ⟨_, rfl, ?_⟩
              refine hK.out _ _ (kp.out _ hB40.out) (fun hHeld => ?_)
              clear hK K
              refine norm_ (a' := ?_) ?_ ?_
              rotate_left
              · show Act.put _ (some 198) _ = _
                simp only [Act.put, List.setIfInBounds_toArray, List.set_cons_zero, List.set_cons_succ]
                rfl
              refine pure_ (i := 26) (N := some 200) (v := ?_) (a' := ?_) #[true, true, true, true, true, true, true, true, true, true, true, true, true, true, true, true, true, true, true, true, true, true, true, true, true, true, true, false, false, false, false, false] rfl rfl (by kernel_rfl) (fun _ _ _ h => h) (Or.inl ⟨by rfl, ?_⟩) ?_ ?_
              rotate_left
              · intro w'
                go_simp
                with_reducible rfl
              rotate_left
              · simp only [Act.put, List.setIfInBounds_toArray, List.set_cons_zero, List.set_cons_succ]
                rfl
              refine pure_ (i := 27) (N := some 201) (v := ?_) (a' := ?_) #[true, true, true, true, true, true, true, true, true, true, true, true, true, true, true, true, true, true, true, true, true, true, true, true, true, true, true, true, false, false, false, false] rfl rfl (by kernel_rfl) (fun _ _ _ h => h) (Or.inl ⟨by rfl, ?_⟩) ?_ ?_
              rotate_left
              · intro w'
                go_simp
                with_reducible rfl
              rotate_left
              · simp only [Act.put, List.setIfInBounds_toArray, List.set_cons_zero, List.set_cons_succ]
                rfl
              refine pure_ (i := 28) (N := some 202) (v := ?_) (a' := ?_) #[true, true, true, true, true, true, true, true, true, true, true, true, true, true, true, true, true, true, true, true, true, true, true, true, true, true, true, true, true, false, false, false] rfl rfl (by kernel_rfl) (fun _ _ _ h => h) (Or.inl ⟨by rfl, ?_⟩) ?_ ?_
              rotate_left
              · intro w'
                go_simp
                with_reducible rfl
              rotate_left
              · simp only [Act.put, List.setIfInBounds_toArray, List.set_cons_zero, List.set_cons_succ]
                rfl
              refine one_ (i := 29) (N := some 203) #[true, true, true, true, true, true, true, true, true, true, true, true, true, true, true, true, true, true, true, true, true, true, true, true, true, true, true, true, true, true, false, false] rfl rfl (by kernel_rfl) (by decide) (fun K hK => ?_)
              refine goes_ Tryd.func30 (by kernel_rfl) rfl #[] (by rfl) rfl rfl (by simp only [List.map_toArray, List.map_nil]) ?_
              refine (k30.out _ hB40.out).mono ?_
              rintro e w30 ⟨rfl, hb30⟩
              have hB30 := Aside0.mk (below_step hB40.out hb30)
              clear hb30
              refine ⟨_, rfl, ?_⟩
              refine hK.out _ _ (kp.out _ hB30.out) (fun hHeld => ?_)
              clear hK K
              refine norm_ (a' := ?_) ?_ ?_
              rotate_left
              · show Act.put _ (some 203) _ = _
                simp only [Act.put, List.setIfInBounds_toArray, List.set_cons_zero, List.set_cons_succ]
                rfl
              refine pure_ (i := 30) (N := some 204) (v := ?_) (a' := ?_) #[true, true, true, true, true, true, true, true, true, true, true, true, true, true, true, true, true, true, true, true, true, true, true, true, true, true, true, true, true, true, true, false] rfl rfl (by kernel_rfl) (fun _ _ _ h => h) (Or.inl ⟨by rfl, ?_⟩) ?_ ?_
              rotate_left
              · intro w'
                go_simp
                with_reducible rfl
              rotate_left
              · simp only [Act.put, List.setIfInBounds_toArray, List.set_cons_zero, List.set_cons_succ]
                rfl
              refine pure_ (i := 31) (N := some 6) (v := ?_) (a' := ?_) #[true, true, true, true, true, true, true, true, true, true, true, true, true, true, true, true, true, true, true, true, true, true, true, true, true, true, true, true, true, true, true, true] rfl rfl (by kernel_rfl) (fun _ _ _ h => h) (Or.inl ⟨by rfl, ?_⟩) ?_ ?_
              rotate_left
              · intro w'
                go_simp
                with_reducible rfl
              rotate_left
              · simp only [Act.put, List.setIfInBounds_toArray, List.set_cons_zero, List.set_cons_succ]
                rfl
              refine done_ (by kernel_rfl) ?_
              go_wp2
              go_ret
              exact ⟨rfl, below_step hBW.out hB30.out⟩
            · have hD0 : D = [] := her.resolve_left he0
              obtain rfl : 0 = q := by rw [← hq, hD0]; rfl
              clear hlen hq hD0 her
              rw [show ((i : Int) - ((0 : Nat) : Int)) = (i : Int) by omega] at k37
              rw [show ((i : Int) - ((0 : Nat) : Int)) = (i : Int) by omega]
              clear hwr hbq
              have hwi : IntKind.i64.wrap (i : Int) = (i : Int) := by rw [i64_w]; unfold wrap64; omega
              have he1 : (er == 0) = false := beq_eq_false_iff_ne.mpr he0
              go_region_held3 (fun w' => w'.cell? ⟨w6.heap.size, 0, none⟩ = some (.int .i64 (c 0)) ∧ w'.cell? ⟨w6.heap.size, 1, none⟩ = some (.int .i64 (c 1)) ∧ w'.cell? ⟨w6.heap.size, 2, none⟩ = some (.int .i64 (c 2)) ∧ w'.cell? ⟨w6.heap.size, 3, none⟩ = some (.int .i64 (c 3)) ∧ w'.cell? ⟨w6.heap.size, 4, none⟩ = some (.int .i64 (c 4)) ∧ w'.cell? ⟨w6.heap.size, 5, none⟩ = some (.int .i64 (c 5)) ∧ w'.cell? ⟨w6.heap.size, 6, none⟩ = some (.int .i64 (c 6))) (first | exact kp.out _ hbD.out | exact kp.out _ hBc) (first
                | (go_at_call 37; refine (k37.out _ hbD.out).mono ?_; rintro e w37 ⟨rfl, hb37⟩; have hBc := below_step hbD.out hb37)
                | (go_at_call 40; refine (k40.out _ hBc).mono ?_; rintro e w40 ⟨rfl, hb40⟩; have hBc := below_step hBc hb40)
                | (go_at_call 30; refine (k30.out _ hBc).mono ?_; rintro e w30 ⟨rfl, hb30⟩; have hBc := below_step hBc hb30))
              go_wp2
              go_ret
              exact ⟨rfl, below_step hBW.out hBc⟩
          -- end ends
  · obtain rfl := hl.out.out hv
    have hwk := Aside0.mk (wakes6 w1 (HT.out.below hD1.out))
    go_wp2_with (go_at_call 30; refine hwk.out.mono ?_; rintro e w7 ⟨rfl, d7⟩)
    go_ret
    exact ⟨rfl, below_step hD1.out d7⟩
theorem calls (W : World) (hT : TabOk W) (a0 : Int) (w0 : (Lit.int .u64 a0).wf = true) (a1 : Option Addr) (c1 : Nat) (l1 : List (List Int)) (r1 : RowsOf W [.u64] a1 l1) (x1 : l1.length ≤ c1) (m1 : c1 ≤ maxLen) (a2 : Int) (w2 : (Lit.int .u64 a2).wf = true) :
    Calls Tryd.prog 10 #[.int .u64 a0, .agg #[.slice a1 l1.length c1], .int .u64 a2] W fun e w' => e = .returned (.bool true) ∧ Below W.heap.size W w' := by
  have hm : l1.length ≤ 9223372036854775807 := by
    unfold maxLen at m1
    omega
  have h := walk W hT a0 a2 (U_of w0) (U_of w2) a1 c1 (firsts l1) (kd_ints r1 hm) (by rw [firsts_length]; exact x1) (fun x hx => U_of (firsts_wf r1 x hx))
  rw [firsts_length] at h
  exact h
end Go.Proofs.YtedolmjealgeoaaDoor.CallWheelPlaces
