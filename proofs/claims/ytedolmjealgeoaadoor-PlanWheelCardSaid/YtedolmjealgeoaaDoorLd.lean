/- The laws' Set.laid as a call: a wheel with timers 0, 1, .., each at its time, and these times. Conditions: the list reads; the table's cells. -/
import Derived.Test.YtedolmjealgeoaaDoorGf
import Derived.Test.YtedolmjealgeoaaDoorGe
set_option linter.unusedVariables false
namespace Go.Proofs.YtedolmjealgeoaaDoor.Wh
open Go.RowKit Go.Maps Go.Proofs.YtedolmjealgeoaaDoor.PBase Go.Proofs.YtedolmjealgeoaaDoor.Cat Go.Proofs.YtedolmjealgeoaaDoor.Rg Go.Proofs.YtedolmjealgeoaaDoor.Tk Go.Proofs.YtedolmjealgeoaaDoorW.PrintWords Go.Proofs.YtedolmjealgeoaaDoorW.PrintLast Go.Proofs.YtedolmjealgeoaaDoorW.PrintMore
abbrev kU : Kd Int := Kd.int .u64
theorem app1_run {W : World} {base : Nat} {ok : Nat → Prop} {v : Value} {xs : List Int} (h : Kd.R kU 29 W base ok v xs) (d : Int) (ty : TypeId) (hl : xs.length ≤ 1000000) (ad : Addr) (c : Nat) (hx : W.cell? ad = some (.int .u64 d)) (hb : base ≤ W.heap.size) :
    ∃ v1 w1, (Builtin.append_ #[51, 51] ty #[v, .slice (some ad) 1 c]).run Tryd.prog W = .ok v1 w1 ∧ Kd.R kU 29 w1 base (fun k => v1.ownBlock = some k) v1 (xs ++ [d]) ∧ Fr (fun k => v.ownBlock = some k) W w1 ∧ At W v v1 := by
  obtain ⟨i0, hi, hzz⟩ := Option.map_eq_some_iff.1 (show (Tryd.prog.info? 29).map (fun i => (i.zero, i.size, i.bytes)) = some (some (.int .u64 0), 1, 8) by kernel_rfl)
  simp only [Prod.mk.injEq] at hzz
  obtain ⟨hz0, hz1, hz2⟩ := hzz
  have ho : W.ownsRow base 29 1 v xs.length (encs (Value.int .u64) xs) := Kd.own_of_R (enc := Value.int .u64) (h1 := fun _ => rfl) h
  obtain ⟨v1, w1, hrun, h2, hg, _, hat⟩ := run_append_own_at (P := Tryd.prog) W base 51 ty 29 i0 _ 1 8 Tryd.underlying51 hi hz0 hz1 hz2 rfl (by decide) v xs.length (encs (Value.int .u64) xs) ho ad 1 c [.int .u64 d] rfl (fun j u hu => by
    cases j with
    | zero =>
      obtain rfl : Value.int .u64 d = u := by simpa using hu
      exact hx
    | succ j => simp at hu) (fun x hx => by rw [List.mem_singleton.1 hx]; rfl) (by simp only [maxLen]; omega) (by omega) hb
  have h3 : w1.ownsRow base 29 1 v1 (xs ++ [d]).length (encs (Value.int .u64) (xs ++ [d])) := by
    rw [List.length_append]
    have e : encs (Value.int .u64) (xs ++ [d]) = encs (Value.int .u64) xs ++ [.int .u64 d] := by simp [encs]
    rw [e]
    exact h2
  refine ⟨v1, w1, hrun, Kd.R_of_own (enc := Value.int .u64) (h1 := fun _ => rfl) h3 (fun k hk => hk), Fr.of_grown hg (fun k e => e), ?_⟩
  rcases hat with hat | hat
  · exact .inl hat
  · exact .inr ⟨_, hat, Nat.le_refl _⟩
/-- Timers 0, 1, .., the last one first. -/
def ldT (f : Nat → Int) : Nat → List S31
  | 0 => []
  | i + 1 => ⟨i, f i⟩ :: ldT f i
theorem ldT_len (f : Nat → Int) : ∀ n, (ldT f n).length = n
  | 0 => rfl
  | i + 1 => by rw [ldT, List.length_cons, ldT_len f i]
theorem ldT_mem {f : Nat → Int} {d : S31} : ∀ {n : Nat}, d ∈ ldT f n ↔ ∃ i : Nat, i < n ∧ d = ⟨i, f i⟩
  | 0 => ⟨fun h => absurd h List.not_mem_nil, fun ⟨i, h, _⟩ => absurd h (Nat.not_lt_zero i)⟩
  | n + 1 => by
    rw [ldT, List.mem_cons, ldT_mem (n := n)]
    constructor
    · rintro (rfl | ⟨i, h, rfl⟩)
      · exact ⟨n, by omega, rfl⟩
      · exact ⟨i, by omega, rfl⟩
    · rintro ⟨i, h, rfl⟩
      rcases Nat.lt_or_eq_of_le (Nat.le_of_lt_succ h) with h1 | rfl
      · exact .inr ⟨i, h1, rfl⟩
      · exact .inl rfl
theorem ldT_new (f : Nat → Int) (i : Nat) : (i : Int) ∉ ids (ldT f i) := by
  intro e
  obtain ⟨d, hd, e2⟩ := List.mem_map.1 e
  obtain ⟨j, hj, rfl⟩ := ldT_mem.1 hd
  have : (j : Int) = (i : Int) := e2
  omega
section
variable {N : Nat} {X Y : Nat → Prop} {W W' : World} {B : Nat} {now t : Int} {T V : List S31}
theorem ld_ins {f : Nat → Int} {now : Int} {i : Nat} (h : now < f i) : insR now (ldT f i) i (f i) = 0 ∧ insT now (ldT f i) i (f i) = ldT f (i + 1) := by
  unfold insR insT
  rw [if_neg (ldT_new f i), if_neg (by omega), if_neg (ldT_new f i), if_neg (by omega)]
  exact ⟨rfl, rfl⟩
/-- What laid hands on. -/
structure LaidTo (now : Int) (L : List Int) (W w : World) (B : Nat) (v : Value) : Prop where
  len : L.length ≤ 60
  all : ∀ i, i < L.length → 0 < L.getD i 0 ∧ now + L.getD i 0 < 18446744073709551616
  wj : WJ (W.heap.size + 1) (fun k => v.ownBlock = some k) w B now (ldT (fun i => now + L.getD i 0) L.length)
  row : Kd.R kU 29 w (W.heap.size + 1) (fun k => v.ownBlock = some k) v ((List.range L.length).map (fun i => now + L.getD i 0))
/-- The times that a wheel takes. -/
def Valid (now : Int) (L : List Int) : Prop := L.length ≤ 60 ∧ ∀ i, i < L.length → 0 < L.getD i 0 ∧ now + L.getD i 0 < 18446744073709551616
inductive LaidR (now : Int) (L : List Int) (W w : World) (B : Nat) (v : Value) : Bool → Prop where
  | yes (h : LaidTo now L W w B v) : LaidR now L W w B v true
  | no (h : ¬ Valid now L) : LaidR now L W w B v false
theorem LaidR.go {now : Int} {L : List Int} {W w : World} {B : Nat} {v : Value} {b : Bool} (h : LaidR now L W w B v b) (hv : Valid now L) : b = true ∧ LaidTo now L W w B v := by
  cases h with
  | yes h => exact ⟨rfl, h⟩
  | no h => exact absurd hv h
theorem LaidR.out {now : Int} {L : List Int} {W w : World} {B : Nat} {v : Value} {b : Bool} (h : LaidR now L W w B v b) (hv : ¬ Valid now L) : b = false := by
  cases h with
  | yes h => exact absurd ⟨h.len, h.all⟩ hv
  | no h => rfl
set_option maxHeartbeats 8000000 in
set_option maxRecDepth 100000 in
theorem laid_W (W : World) (hT : Tz.TabOk W) (hn : U now) (A : Option Addr) (c : Nat) (L : List Int) (hC : kU.C W A L.length L) (hc : L.length ≤ c) (hu : ∀ x ∈ L, U x) : Calls Tryd.prog 29 #[.agg #[.slice A L.length c], .int .u64 now] W fun e w' => ∃ B v ok, e = .returned (.tuple #[ptr B, v, .bool ok]) ∧ Aside0 (LaidR now L W w' B v ok) ∧ Below W.heap.size W w' := by
  have hx := blk_new W (.cells #[.slice A L.length c] 53)
  have hbx := below_alloc (Below.refl W.heap.size W) (.cells #[.slice A L.length c] 53)
  have hsz : (W.alloc (.cells #[.slice A L.length c] 53)).heap.size = W.heap.size + 1 := by simp
  have HT := Aside0.mk (hT.below hbx)
  have HN := Aside0.mk hn
  have HC := Aside0.mk (Kd.C_below hC hbx)
  have HU := Aside0.mk hu
  have HB := Aside0.mk hbx
  have HX := Aside0.mk hx
  have HSZ := Aside0.mk hsz
  clear hT hn hC hu hbx
  go_enter Tryd.func29, Tryd.ntmps29
  go_upto_region 1 with (fail)
  generalize W.alloc (.cells #[.slice A L.length c] 53) = W1 at HT HC HB HX HSZ ⊢
  clear hx hsz
  go_upto_region 2 with (go_at_call 35; refine (new_J _ HT.out HN.out).mono ?_; rintro e w1 ⟨B, rfl, hJ, b1⟩)
  have hx1 := Aside0.mk (blk_below HX.out b1)
  have c1 : w1.cell? ⟨W.heap.size, 0, none⟩ = some (.slice A L.length c) := (blk_cell hx1.out 0).trans rfl
  have hB1 := Aside0.mk b1
  clear b1
  by_cases hl : L.length ≤ 60
  · have hlz : ¬ (60 : Int) < (L.length : Int) := by omega
    obtain ⟨f, hf⟩ : ∃ f : Nat → Int, (fun i => now + L.getD i 0) = f := ⟨_, rfl⟩
    have HF := Aside0.mk hf
    clear hf
    have HRd := Aside0.mk (Kd.reads_of_C (enc := Value.int .u64) (d := 0) (h1 := fun _ => rfl) HC.out)
    have HN1 := Aside0.mk hJ.out.base_le
    have hJ0 : Aside0 (WJ W1.heap.size (fun k => (Value.slice none 0 0).ownBlock = some k) w1 B now []) := ⟨hJ.out.sub (fun k hk => by cases hk)⟩
    clear hJ
    go_wp2
    go_loopg [8, 9] L.length (fun gk v8 v9 wr => ∃ (i : Nat) (vo : Value), vo = v8 ∧ v9 = .int .i64 i ∧ i ≤ L.length ∧ L.length - i ≤ gk ∧ Aside0 (∀ j, j < i → 0 < L.getD j 0 ∧ f j < 18446744073709551616) ∧ Aside0 (WJ W1.heap.size (fun k => vo.ownBlock = some k) wr B now (ldT f i)) ∧ Aside0 (Kd.R kU 29 wr W1.heap.size (fun k => vo.ownBlock = some k) vo ((List.range i).map f)) ∧ Aside0 (Below W1.heap.size w1 wr))
    case atStart => exact ⟨0, _, rfl, rfl, Nat.zero_le _, by omega, ⟨fun j hj => absurd hj (Nat.not_lt_zero j)⟩, hJ0, ⟨Kd.R_nil _ _ _ _ _⟩, ⟨(Fr.refl (fun k => W1.heap.size ≤ k) w1).below hB1.out.size (fun k h => h)⟩⟩
    case round =>
      obtain ⟨i, vo, rfl, rfl, hi, hgk, hall, hJ, hR, hBw⟩ := hrel
      have hxr := Aside0.mk ((hBw.out.block _ (blk_lt HX.out)).trans hx1.out)
      have c2 : wr.cell? ⟨W.heap.size, 0, none⟩ = some (.slice A L.length c) := (blk_cell hxr.out 0).trans rfl
      by_cases hlt : i < L.length
      · have hi0 : (0 : Int) ≤ (i : Int) := by omega
        have hi1 : (i : Int) < (L.length : Int) := by omega
        obtain ⟨ad, e1, hcell⟩ := HRd.out.2.2 (by omega)
        subst e1
        have hci := hcell i hlt
        obtain ⟨y, hy⟩ : ∃ y, L.getD i 0 = y := ⟨_, rfl⟩
        rw [hy] at hci
        have hcr : wr.cell? (ad.add i) = some (.int .u64 y) := ((hB1.out.trans hBw.out).cell (World.block_lt_of_cell? W1 _ hci)).trans hci
        have hyL : y ∈ L := by
          rw [← hy, List.getD_eq_getElem?_getD, List.getElem?_eq_getElem hlt]
          exact List.getElem_mem hlt
        have hs := rsum HN.out (HU.out y hyL)
        have hyf : now + y = f i := by rw [← HF.out, ← hy]
        clear hcell hci
        have HY := Aside0.mk (And.intro hy hyf)
        have HYL := Aside0.mk hyL
        by_cases ho : now + y < 18446744073709551616
        · rw [if_pos ho, hyf] at hs
          have HS := Aside0.mk hs
          have HO := Aside0.mk ho
          clear hs hy hyf hyL ho
          by_cases hy0 : y = 0
          · subst hy0
            have hNV : Aside0 (¬ Valid now L) := ⟨fun hv => by
              have h1 := hv.2 i hlt
              rw [HY.out.1] at h1
              omega⟩
            go_wp2_with (go_at_call 33; refine (remontoirref01_Sum.calls now 0 _ _ _ HS.out).mono ?_; rintro e w2 ⟨rfl, b2⟩; have g2 := Aside0.mk (blk_new w2 (.cells #[.int .u64 (f i), .bool true] 64)); have z1 : (w2.alloc (.cells #[.int .u64 (f i), .bool true] 64)).cell? ⟨w2.heap.size, 1, none⟩ = some (.bool true) := (blk_cell g2.out 1).trans rfl; have b3 := below_alloc b2 (.cells #[.int .u64 (f i), .bool true] 64); have c3 : (w2.alloc (.cells #[.int .u64 (f i), .bool true] 64)).cell? ⟨W.heap.size, 0, none⟩ = some (.slice (some ad) L.length c) := (blk_cell (blk_below hxr.out b3) 0).trans rfl; have c4 := (b3.cell (World.block_lt_of_cell? wr _ hcr)).trans hcr)
            go_ret3
            exact ⟨B, _, false, rfl, ⟨.no hNV.out⟩, below_step HB.out (hB1.out.trans (hBw.out.trans (b3.mono (Nat.le_trans HN1.out hBw.out.size))))⟩
          · have hy0b : (y == 0) = false := beq_eq_false_iff_ne.mpr hy0
            have hypos : Aside0 (0 < y) := ⟨by have := (HU.out y HYL.out).1; omega⟩
            go_upto_region 11 with (go_at_call 33; refine (remontoirref01_Sum.calls now y _ _ _ HS.out).mono ?_; rintro e w2 ⟨rfl, b2⟩; have g2 := Aside0.mk (blk_new w2 (.cells #[.int .u64 (f i), .bool true] 64)); have z1 : (w2.alloc (.cells #[.int .u64 (f i), .bool true] 64)).cell? ⟨w2.heap.size, 1, none⟩ = some (.bool true) := (blk_cell g2.out 1).trans rfl; have b3 := below_alloc b2 (.cells #[.int .u64 (f i), .bool true] 64); have c3 : (w2.alloc (.cells #[.int .u64 (f i), .bool true] 64)).cell? ⟨W.heap.size, 0, none⟩ = some (.slice (some ad) L.length c) := (blk_cell (blk_below hxr.out b3) 0).trans rfl; have c4 := (b3.cell (World.block_lt_of_cell? wr _ hcr)).trans hcr)
            have hJ2 := Aside0.mk (hJ.out.more (Y := fun k => k = w2.heap.size) b3 (fun k hk => by
              have e2 : k = w2.heap.size := hk
              subst e2
              exact ⟨b2.size, blk_lt g2.out⟩))
            have hR2 := Aside0.mk (Kd.R_below hR.out b3)
            have hB3 := Aside0.mk b3
            have hfi : now < f i := by have := HY.out.2; have := hypos.out; omega
            have hfu : U (f i) := by
              have h1 := HY.out.2
              have h2 := HO.out
              have h3 := HN.out
              unfold U at *
              omega
            have hin := Aside0.mk (ins_J hJ2.out i (f i) (wf_sm (by omega) (by omega)) hfu (by rw [ldT_len]; omega) 0 (ld_ins hfi).1 _ (ld_ins hfi).2)
            have z0 : (w2.alloc (.cells #[.int .u64 (f i), .bool true] 64)).cell? ⟨w2.heap.size, 0, none⟩ = some (.int .u64 (f i)) := (blk_cell g2.out 0).trans rfl
            clear hfi hfu z1 c3 c4 b3 b2
            go_upto_region 13 with (go_at_call 36; refine hin.out.mono ?_; rintro e w3 ⟨rfl, hJ3, hf3⟩)
            have g3 := Aside0.mk ((hf3.blk w2.heap.size (blk_lt g2.out) (fun e => e.2 (.inr rfl))).trans g2.out)
            have hR3 : Aside0 (Kd.R kU 29 w3 W1.heap.size (fun k => vo.ownBlock = some k) vo ((List.range i).map f)) := ⟨Kd.R_kept hR2.out (S := KX W1.heap.size (fun k => vo.ownBlock = some k ∨ k = w2.heap.size)) ⟨hf3.size, fun i hi hn => hf3.blk i hi hn⟩ (fun k hk e => e.2 (.inl hk))⟩
            have hW3 := Aside0.mk (hJ3.out.sub (Y := fun k => vo.ownBlock = some k) (fun k hk => .inl hk))
            have hBw3 : Aside0 (Below W1.heap.size w1 w3) := ⟨((hBw.out.trans (hB3.out.mono (Nat.le_trans HN1.out hBw.out.size)))).trans (hf3.below (Nat.le_trans (Nat.le_trans HN1.out hBw.out.size) hB3.out.size) (fun k hk => hk.1))⟩
            have d4 := below_alloc (Below.refl w3.heap.size w3) (.cells #[.int .u64 (f i)] 29)
            have g4 := blk_new w3 (.cells #[.int .u64 (f i)] 29)
            have hN3 : W1.heap.size ≤ w3.heap.size := Nat.le_trans HN1.out hBw3.out.size
            obtain ⟨v1, w4, hrun, hR4, hf4, hat⟩ := app1_run (Kd.R_below hR3.out d4) (f i) 51 (by simp; omega) ⟨w3.heap.size, 0, none⟩ 1 ((blk_cell g4 0).trans rfl) (Nat.le_trans hN3 d4.size)
            have hW4 := Aside0.mk ((hW3.out.step d4).swap (X1 := fun k => v1.ownBlock = some k) hf4 (fun k hk => by
              have := (Kd.R_bound hR3.out).1 k hk
              have h5 := hW3.out.tb.pos
              omega) (fun k hk => ⟨by
              rcases hat with h5 | ⟨b, h5, h6⟩
              · exact .inl (h5 ▸ hk)
              · rw [h5] at hk
                exact .inr (Option.some.inj hk ▸ h6), by
              have := Kd.own_of_R (enc := Value.int .u64) (h1 := fun _ => rfl) hR4
              exact own_lt this k hk⟩))
            have hR5 : Aside0 (Kd.R kU 29 w4 W1.heap.size (fun k => v1.ownBlock = some k) v1 ((List.range (i + 1)).map f)) := ⟨by
              rw [List.range_succ, List.map_append]
              exact hR4⟩
            have hBw4 : Aside0 (Below W1.heap.size w1 w4) := ⟨hBw3.out.trans ((d4.mono hN3).trans (hf4.below (Nat.le_trans hN3 d4.size) (fun k hk => ((Kd.R_bound hR3.out).1 k hk).2.1)))⟩
            have hall2 : Aside0 (∀ j, j < i + 1 → 0 < L.getD j 0 ∧ f j < 18446744073709551616) := ⟨fun j hj => by
              rcases Nat.lt_or_eq_of_le (Nat.le_of_lt_succ hj) with h1 | rfl
              · exact hall.out j h1
              · rw [HY.out.1, ← HY.out.2]
                exact ⟨hypos.out, HO.out⟩⟩
            have y0 : w3.cell? ⟨w2.heap.size, 0, none⟩ = some (.int .u64 (f i)) := (blk_cell g3.out 0).trans rfl
            clear hR4 hf4 hat hN3 d4 g4 z0
            go_wp2_with (at_builtin; refine Lib.wpList_append_run _ (by rfl) (.tmp 54) (.tmp 57) 51 51 (by rfl) _ (.slice (some ⟨w3.heap.size, 0, none⟩) 1 1) (by rfl) (by rfl) v1 w4 hrun ?_)
            go_roundg (L.length - (i + 1))
            case measure => omega
            case rel => exact ⟨i + 1, _, rfl, by go_num, by omega, Nat.le_refl _, hall2, hW4, hR5, hBw4⟩
        · rw [if_neg ho] at hs
          have HS := Aside0.mk hs
          have hNV : Aside0 (¬ Valid now L) := ⟨fun hv => by
            have h1 := hv.2 i hlt
            rw [HY.out.1] at h1
            exact ho h1.2⟩
          clear hs
          go_wp2_with (go_at_call 33; refine (remontoirref01_Sum.calls now y 0 false _ HS.out).mono ?_; rintro e w2 ⟨rfl, b2⟩; have g2 := blk_new w2 (.cells #[.int .u64 0, .bool false] 64); have z1 : (w2.alloc (.cells #[.int .u64 0, .bool false] 64)).cell? ⟨w2.heap.size, 1, none⟩ = some (.bool false) := (blk_cell g2 1).trans rfl)
          go_ret3
          exact ⟨B, _, false, rfl, ⟨.no hNV.out⟩, below_step HB.out (hB1.out.trans (hBw.out.trans ((below_alloc b2 _).mono (Nat.le_trans HN1.out hBw.out.size))))⟩
      · obtain rfl : i = L.length := by omega
        have hi1 : ¬ (L.length : Int) < (L.length : Int) := by omega
        have hL : Aside0 (LaidTo now L W wr B vo) := ⟨by
          refine ⟨hl, fun j hj => ?_, ?_, ?_⟩
          · have h1 := hall.out j hj
            rw [← HF.out] at h1
            exact h1
          · rw [HF.out, ← HSZ.out]
            exact hJ.out
          · rw [HF.out, ← HSZ.out]
            exact hR.out⟩
        have hbw := Aside0.mk (below_step HB.out (hB1.out.trans hBw.out))
        go_wp2
        go_ret3
        first
          | exact ⟨B, _, true, rfl, ⟨.yes hL.out⟩, hbw.out⟩
          | exact ⟨B, _, .inr ⟨rfl, ⟨.yes hL.out⟩, hbw.out⟩⟩
  · have hlz : (60 : Int) < (L.length : Int) := by omega
    go_wp2
    go_ret3
    exact ⟨B, _, false, rfl, ⟨.no (fun hv => absurd hv.1 hl)⟩, below_step HB.out hB1.out⟩
end
end Go.Proofs.YtedolmjealgeoaaDoor.Wh
