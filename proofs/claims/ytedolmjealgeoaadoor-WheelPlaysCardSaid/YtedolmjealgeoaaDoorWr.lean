/- The reference's wheel in memory; find, At, level, Place as calls. Conditions: it lies in memory as told. -/
import Derived.Test.YtedolmjealgeoaaDoorGf
import Derived.Test.YtedolmjealgeoaaDoorTkr
set_option linter.unusedVariables false
namespace Go.Proofs.YtedolmjealgeoaaDoor.Wh
open Go.RowKit Go.Maps Go.Proofs.YtedolmjealgeoaaDoor.PBase Go.Proofs.YtedolmjealgeoaaDoor.Cat Go.Proofs.YtedolmjealgeoaaDoor.Rg Go.Proofs.YtedolmjealgeoaaDoor.Tk Go.Proofs.YtedolmjealgeoaaDoorW.PrintWords Go.Proofs.YtedolmjealgeoaaDoorW.PrintLast Go.Proofs.YtedolmjealgeoaaDoorW.PrintMore
/-- The blocks of the reference's wheel. -/
abbrev X2 (R : Nat) (v : Value) (k : Nat) : Prop := k = R ∨ v.ownBlock = some k
/-- The place of a number; -1. -/
def plw (id : Int) : List S31 → Int → Int
  | [], _ => -1
  | d :: L, i => if d.f0 = id then i else plw id L (i + 1)
theorem plw_step {id : Int} {L : List S31} {i : Nat} (hi : i < L.length) : plw id (L.drop i) i = if L[i].f0 = id then (i : Int) else plw id (L.drop (i + 1)) ((i + 1 : Nat) : Int) := by
  rw [List.drop_eq_getElem_cons hi]
  rfl
theorem plw_spec (id : Int) : ∀ (L : List S31) (i : Int), (plw id L i = -1 ∧ id ∉ ids L) ∨ ∃ k : Nat, ∃ hk : k < L.length, plw id L i = i + k ∧ L[k].f0 = id
  | [], i => .inl ⟨rfl, by simp [ids]⟩
  | d :: L, i => by
    unfold plw
    by_cases h : d.f0 = id
    · rw [if_pos h]
      exact .inr ⟨0, by simp, by simp, h⟩
    · rw [if_neg h]
      rcases plw_spec id L (i + 1) with ⟨e, hn⟩ | ⟨k, hk, e, ht⟩
      · exact .inl ⟨e, by simp [ids] at hn ⊢; exact ⟨fun e => h e.symm, hn⟩⟩
      · exact .inr ⟨k + 1, by simpa using hk, by rw [e]; omega, by simpa using ht⟩
theorem rd31 (l : List S31) (i : Nat) (h : i < l.length) : rd_T31 l (i : Int) = l[i] := by simp [rd_T31, h]
/-- What find tells, and when the timer is due. -/
theorem plw_tof {L : List S31} (hn : (ids L).Nodup) {id : Int} {o : Option Int} (ho : tof L id = o) : (o = none ∧ plw id L 0 = -1) ∨ ∃ (k : Nat) (hk : k < L.length) (a : Int), o = some a ∧ plw id L 0 = (k : Int) ∧ L[k] = ⟨id, a⟩ := by
  rcases plw_spec id L 0 with ⟨e, h⟩ | ⟨k, hk, e, h⟩
  · exact .inl ⟨ho.symm.trans (tof_none.2 h), e⟩
  · have h2 := tof_mem hn (List.getElem_mem hk)
    rw [h, ho] at h2
    exact .inr ⟨k, hk, L[k].f1, h2, by rw [e]; omega, by rw [← h]⟩
/-- The reference's wheel: its block, and its row. -/
structure RW (N : Nat) (w : World) (R : Nat) (v : Value) (now : Int) (L : List S31) : Prop where
  g : w.heap[R]? = some (.cells #[v, .int .u64 now] 80 (0, 0))
  r : Kd.R k31 31 w N (fun k => v.ownBlock = some k ∧ k ≠ R) v L
  nr : N ≤ R
section
variable {N : Nat} {w w' : World} {R : Nat} {v : Value} {now : Int} {L : List S31}
theorem RW.keep {F : Nat → Prop} (h : RW N w R v now L) (hf : Fr F w w') (hX : ∀ k, X2 R v k → ¬ F k) : RW N w' R v now L :=
  ⟨(hf.blk R (blk_lt h.g) (hX R (.inl rfl))).trans h.g, Kd.R_kept h.r (S := F) ⟨hf.size, fun i hi hn => hf.blk i hi hn⟩ (fun k hk => hX k (.inr hk.1)), h.nr⟩
theorem RW.step (h : RW N w R v now L) (hb : Below w.heap.size w w') : RW N w' R v now L := h.keep (F := fun _ => False) (Fr.of_below hb) (fun _ _ h => h)
theorem RW.lt (h : RW N w R v now L) : ∀ k, X2 R v k → N ≤ k ∧ k < w.heap.size := fun k hk => by
  rcases hk with rfl | hk
  · exact ⟨h.nr, blk_lt h.g⟩
  · exact ⟨((Kd.R_bound h.r).1 k hk).2.1, ((Kd.R_bound h.r).1 k hk).2.2.1⟩
set_option maxHeartbeats 4000000 in
set_option maxRecDepth 100000 in
theorem wfind_calls (h : RW N w R v now L) (id : Int) (hl : L.length ≤ 1000000) : Calls Tryd.prog 75 #[ptr R, .int .i64 id] w fun e w' => e = .returned (.int .i64 (plw id L 0)) ∧ Below w.heap.size w w' := by
  have c3 : w.cell? ⟨R, 0, none⟩ = some v := (blk_cell h.g 0).trans rfl
  obtain ⟨A, c, rfl, hc, hC⟩ := Kd.R_reads h.r
  have HC := Aside0.mk hC
  have hP : Aside0 (plw id L 0 = plw id (L.drop 0) ((0 : Nat) : Int)) := ⟨rfl⟩
  clear hC hc h
  go_enter Tryd.func75, Tryd.ntmps75
  go_wp2
  go_loopg [5] L.length (fun gg v5 wr => ∃ i : Nat, v5 = .int .i64 i ∧ i ≤ L.length ∧ L.length - i ≤ gg ∧ wr = w ∧ Aside0 (plw id L 0 = plw id (L.drop i) (i : Int)))
  case atStart => exact ⟨0, rfl, Nat.zero_le _, by omega, rfl, hP⟩
  case round =>
    obtain ⟨i, rfl, hil, hgg, rfl, hQ⟩ := hrel
    clear hP
    by_cases hi : i < L.length
    · have hi2 : (i : Int) < (L.length : Int) := by omega
      have p1 := eq_true (show 0 ≤ (i : Int) by omega)
      obtain ⟨ad, e1, hx0, _⟩ := at_T31 HC.out (i : Int) (by omega) hi2
      subst e1
      rw [Int.toNat_natCast, rd31 L i hi] at hx0
      have hst := Aside0.mk (plw_step (id := id) hi)
      by_cases hd : L[i].f0 = id
      · replace hQ : Aside0 (plw id L 0 = (i : Int)) := ⟨by rw [hQ.out, hst.out, if_pos hd]⟩
        clear hst
        go_wp2
        go_ret
        exact ⟨by rw [hQ.out]; rfl, Below.refl _ _⟩
      · replace hQ : Aside0 (plw id L 0 = plw id (L.drop (i + 1)) ((i + 1 : Nat) : Int)) := ⟨by rw [hQ.out, hst.out, if_neg hd]⟩
        clear hst
        go_wp2
        go_roundg (L.length - (i + 1))
        case measure => omega
        case rel => exact ⟨i + 1, by go_num, by omega, Nat.le_refl _, rfl, hQ⟩
    · have hi2 : ¬ (i : Int) < (L.length : Int) := by omega
      replace hQ : Aside0 (plw id L 0 = -1) := ⟨by rw [hQ.out, List.drop_eq_nil_of_le (by omega)]; rfl⟩
      go_wp2
      go_ret
      exact ⟨by rw [hQ.out]; rfl, Below.refl _ _⟩
set_option maxHeartbeats 4000000 in
set_option maxRecDepth 100000 in
theorem wat_calls (h : RW N w R v now L) (hn : (ids L).Nodup) (id : Int) (hl : L.length ≤ 1000000) (o : Option Int) (ho : tof L id = o) : Calls Tryd.prog 49 #[ptr R, .int .i64 id] w fun e w' => e = .returned (.agg #[.int .u64 (o.getD 0), .bool o.isSome]) ∧ Below w.heap.size w w' := by
  have hbx : Below w.heap.size w (w.alloc (.cells #[.int .u64 0, .bool false] 64)) := below_alloc (Below.refl _ _) _
  have hx := blk_new w (.cells #[.int .u64 0, .bool false] 64)
  have hf := wfind_calls (h.step hbx) id hl
  obtain ⟨A, c, e0, hc, hC⟩ := Kd.R_reads h.r
  subst e0
  have HC := Aside0.mk hC
  have H := Aside0.mk h
  have HX := Aside0.mk hx
  have HBX := Aside0.mk hbx
  have hp := plw_tof hn ho
  generalize plw id L 0 = q at hf hp
  have HF := Aside0.mk hf
  clear h hC hc hx hbx hf hn ho
  rcases hp with ⟨rfl, rfl⟩ | ⟨k, hk, a, rfl, rfl, ha⟩
  · go_enter Tryd.func49, Tryd.ntmps49
    go_upto_region 2 with (go_at_call 75; refine HF.out.mono ?_; rintro e w1 ⟨rfl, hb1⟩)
    have hb := Aside0.mk (below_step HBX.out hb1)
    have HX1 := Aside0.mk (blk_below HX.out hb1)
    have hX : w.heap.size < w1.heap.size := blk_lt HX1.out
    clear hb1 HX HBX HF
    have y0 : w1.cell? ⟨w.heap.size, 0, none⟩ = some (.int .u64 0) := (blk_cell HX1.out 0).trans rfl
    have y1 : w1.cell? ⟨w.heap.size, 1, none⟩ = some (.bool false) := (blk_cell HX1.out 1).trans rfl
    have z0 := blk_frozen HX1.out 0
    have z1 := blk_frozen HX1.out 1
    obtain ⟨X, hXe⟩ : ∃ X, X = w.heap.size := ⟨_, rfl⟩
    rw [← hXe] at y0 y1 z0 z1 HX1 hX ⊢
    have HXe := Aside0.mk hXe
    clear hXe
    go_wp2
    refine bodyPost_ret (results_cell_row rfl _ _ X 64 #[.int .u64 0, .bool false] (0, 0) _ rfl (blk_set (blk_set HX1.out 0 _) 1 _) Tryd.underlying64 rfl (by kernel_rfl)) rfl ?_
    refine ⟨rfl, ?_⟩
    rw [HXe.out]
    exact below_set (below_set hb.out (Nat.le_refl _)) (Nat.le_refl _)
  · go_enter Tryd.func49, Tryd.ntmps49
    have hk0 : ¬ (k : Int) < 0 := by omega
    have hk1 : 0 ≤ (k : Int) := by omega
    have hk2 : (k : Int) < (L.length : Int) := by omega
    go_upto_region 2 with (go_at_call 75; refine HF.out.mono ?_; rintro e w1 ⟨rfl, hb1⟩)
    have hb := Aside0.mk (below_step HBX.out hb1)
    have HX1 := Aside0.mk (blk_below HX.out hb1)
    have HM := Aside0.mk (H.out.step hb.out)
    have c0 : w1.cell? ⟨R, 0, none⟩ = some (.slice A L.length c) := (blk_cell HM.out.g 0).trans rfl
    obtain ⟨ad, e1, _, hx1⟩ := at_T31 (Kd.C_below HC.out hb.out) (k : Int) (by omega) hk2
    cases e1
    rw [Int.toNat_natCast, rd31 L k hk, ha] at hx1
    replace hx1 : w1.cell? ⟨(ad.add (k * 2)).block, (ad.add (k * 2)).off + 1, none⟩ = some (.int .u64 a) := hx1
    have y0 : w1.cell? ⟨w.heap.size, 0, none⟩ = some (.int .u64 0) := (blk_cell HX1.out 0).trans rfl
    have y1 : w1.cell? ⟨w.heap.size, 1, none⟩ = some (.bool false) := (blk_cell HX1.out 1).trans rfl
    have z0 := blk_frozen HX1.out 0
    have z1 := blk_frozen HX1.out 1
    obtain ⟨X, hXe⟩ : ∃ X, X = w.heap.size := ⟨_, rfl⟩
    rw [← hXe] at y0 y1 z0 z1 HX1 ⊢
    have HXe := Aside0.mk hXe
    clear hXe hb1 HX HBX HF ha HM
    go_wp2
    refine bodyPost_ret (results_cell_row rfl _ _ X 64 #[.int .u64 a, .bool true] (0, 0) _ rfl (blk_set (blk_set HX1.out 0 _) 1 _) Tryd.underlying64 rfl (by kernel_rfl)) rfl ?_
    refine ⟨rfl, ?_⟩
    rw [HXe.out]
    exact below_set (below_set hb.out (Nat.le_refl _)) (Nat.le_refl _)
/-- A level, the far one 6. -/
def lv6 (a now : Int) : Int := if lv a now < 6 then (lv a now : Int) else 6
set_option maxHeartbeats 4000000 in
set_option maxRecDepth 100000 in
theorem level_calls (h : RW N w R v now L) {a : Int} (ha : U a) (hn : U now) : Calls Tryd.prog 77 #[ptr R, .int .u64 a] w fun e w' => e = .returned (.int .i64 (lv6 a now)) ∧ Below w.heap.size w w' := by
  have c1 : w.cell? ⟨R, 1, none⟩ = some (.int .u64 now) := (blk_cell h.g 1).trans rfl
  obtain ⟨k, hk, hi⟩ := rtop ha hn 0
  have hl := lv_top ha hn hi
  have HK := Aside0.mk hk
  have hlt := (lv_spec ha hn).2.2
  obtain ⟨m, hm⟩ : ∃ m, lv6 a now = m := ⟨_, rfl⟩
  rw [hm]
  unfold lv6 at hm
  generalize lv a now = q at hl hm hlt
  have hb : (k = -1 ∧ q = 0) ∨ k = (q : Int) := by
    split at hl <;> rcases hi with ⟨h, _⟩ | ⟨h0, h1, _⟩ <;> omega
  have hmx : ∀ W : World, (Builtin.max_ #[3, 3] 3 #[.int .i64 k, .int .i64 0]).run Tryd.prog W = .ok (.int .i64 (q : Int)) W := fun W => by
    rcases hb with ⟨rfl, rfl⟩ | rfl
    · kernel_rfl
    · simp [Builtin.max_, Builtin.max2]
      omega
  have hmn : ∀ W : World, (Builtin.min_ #[3, 3] 3 #[.int .i64 (q : Int), .int .i64 6]).run Tryd.prog W = .ok (.int .i64 m) W := fun W => by
    subst hm
    simp [Builtin.min_, Builtin.min2]
    split <;> omega
  clear hl hi hk ha hn hlt hb hm h
  go_enter Tryd.func77, Tryd.ntmps77
  go_wp2_with (go_at_call 98; refine (remontoirref01_Top.calls 12 a now k _ HK.out).mono ?_; rintro e w1 ⟨rfl, hb1⟩)
  go_ret
  exact ⟨rfl, hb1⟩
end
end Go.Proofs.YtedolmjealgeoaaDoor.Wh
