/- The reference's wheel: Insert, Cancel, Pop as calls. Conditions: it lies in memory as told. -/
import Derived.Test.YtedolmjealgeoaaDoorWr
set_option linter.unusedVariables false
namespace Go.Proofs.YtedolmjealgeoaaDoor.Wh
open Go.RowKit Go.Maps Go.Proofs.YtedolmjealgeoaaDoor.PBase Go.Proofs.YtedolmjealgeoaaDoor.Cat Go.Proofs.YtedolmjealgeoaaDoor.Rg Go.Proofs.YtedolmjealgeoaaDoor.Tk Go.Proofs.YtedolmjealgeoaaDoorW.PrintWords Go.Proofs.YtedolmjealgeoaaDoorW.PrintLast Go.Proofs.YtedolmjealgeoaaDoorW.PrintMore
theorem R2_lit0 (W : World) : Kd.R k31 31 (W.alloc (.cells #[] 31)) W.heap.size (fun _ => True) (.slice (some ⟨W.heap.size, 0, none⟩) 0 0) [] := by
  refine ⟨fun _ _ => trivial, OwnRow.lit W W.heap.size (inner := flat []) ?_ (Nat.le_refl _) (by simp)⟩
  exact reps_flat (fun x => k31_mkM _ _ _ x) []
theorem rm_none {P : List S31} {id : Int} (h : ¬ id ∈ ids P) : rm P id = P := by
  unfold rm
  rw [List.filter_eq_self]
  intro d hd
  have : d.f0 ≠ id := fun e => h (List.mem_map.2 ⟨d, hd, e⟩)
  simpa using this
theorem rm_at : ∀ {L : List S31} (k : Nat) (hk : k < L.length), (ids L).Nodup → L.take k ++ L.drop (k + 1) = rm L L[k].f0
  | d :: L, 0, hk, hn => by
    have h2 := List.nodup_cons.1 hn
    have h3 := rm_none h2.1
    unfold rm at h3 ⊢
    rw [List.filter_cons_of_neg (by simp)]
    exact h3.symm
  | d :: L, k + 1, hk, hn => by
    have h2 := List.nodup_cons.1 hn
    have hk' : k < L.length := by simpa using hk
    have ih := rm_at k hk' h2.2
    have hne : d.f0 ≠ L[k].f0 := fun e => h2.1 (List.mem_map.2 ⟨L[k], List.getElem_mem hk', e.symm⟩)
    show d :: (L.take k ++ L.drop (k + 1)) = rm (d :: L) L[k].f0
    rw [ih]
    unfold rm
    rw [List.filter_cons_of_pos (by simpa using hne)]
section
variable {N : Nat} {w w' : World} {R : Nat} {v : Value} {now : Int} {L : List S31}
/-- Where a call leaves the reference's wheel. -/
def RWo (N : Nat) (w : World) (R : Nat) (v : Value) (w' : World) (now : Int) (L : List S31) : Prop := ∃ v', RW N w' R v' now L ∧ Fr (X2 R v) w w' ∧ (v'.ownBlock = v.ownBlock ∨ ∀ b, v'.ownBlock = some b → w.heap.size ≤ b)
theorem RW.go (h : RW N w R v now L) (hb : Below w.heap.size w w') : RWo N w R v w' now L := ⟨v, h.step hb, Fr.of_below hb, .inl rfl⟩
/-- The row stored anew. -/
theorem RW.put {w1 : World} {ok : Nat → Prop} {v' : Value} {L' : List S31} (h : RW N w R v now L) (hb : Below w.heap.size w w1) (hR : Kd.R k31 31 w1 w.heap.size ok v' L') : RW N (w1.setCell ⟨R, 0, none⟩ v') R v' now L' ∧ Fr (X2 R v) w (w1.setCell ⟨R, 0, none⟩ v') ∧ ∀ b, v'.ownBlock = some b → w.heap.size ≤ b := by
  have hlt := blk_lt h.g
  have hown : ∀ b, v'.ownBlock = some b → w.heap.size ≤ b := fun b e => ((Kd.R_bound (Kd.R_tight2 (d := k31) rfl hR)).1 b e).2.1
  refine ⟨⟨blk_set (blk_below h.g hb) 0 v', ?_, h.nr⟩, (Fr.of_below hb).trans ((Fr.set w1 R 0 v').weak (fun k hk => .inl hk)), hown⟩
  have h2 : Kd.R k31 31 w1 w.heap.size (fun k => v'.ownBlock = some k ∧ k ≠ R) v' L' := Kd.R_mono (Kd.R_tight2 rfl hR) (fun k hk => ⟨hk.1.symm, fun e => by have := hown k hk.1.symm; omega⟩)
  exact Kd.R_kept (Kd.R_lower h2 (Nat.le_trans h.nr (Nat.le_of_lt hlt))) (S := fun k => k = R) ⟨by simp [World.setCell], fun i hi hn => Below.heap_setCell w1 ⟨R, 0, none⟩ v' i hn⟩ (fun k hk => hk.2)
theorem RW.setNow (h : RW N w R v now L) (t : Int) : RW N (w.setCell ⟨R, 1, none⟩ (.int .u64 t)) R v t L ∧ Fr (X2 R v) w (w.setCell ⟨R, 1, none⟩ (.int .u64 t)) :=
  ⟨⟨blk_set h.g 1 _, Kd.R_kept h.r (S := fun k => k = R) ⟨by simp [World.setCell], fun i hi hn => Below.heap_setCell w ⟨R, 1, none⟩ _ i hn⟩ (fun k hk => hk.2), h.nr⟩, (Fr.set w R 1 _).weak (fun k hk => .inl hk)⟩
/-- A reference's call keeps the wheel, and the other way about. -/
theorem WJ.r {X : Nat → Prop} {B : Nat} {t t2 : Int} {T L2 : List S31} (hq : WJ N (fun k => X k ∨ X2 R v k) w B t T) (hX : ∀ k, X k → ¬ X2 R v k) (h : RW N w R v now L) (hp : ∀ k, X k → 0 < k) (hg : RWo N w R v w' t2 L2) : ∃ v', RW N w' R v' t2 L2 ∧ WJ N (fun k => X k ∨ X2 R v' k) w' B t T ∧ (∀ k, X k → ¬ X2 R v' k) ∧ Fr (X2 R v) w w' := by
  obtain ⟨v', h1, hf, hat⟩ := hg
  have hxs := hq.xs
  have hpos := hq.tb.pos
  refine ⟨v', h1, hq.swap (hf.weak (fun k e => .inr e)) (fun k hk => ?_) (fun k hk => ?_), fun k hk e => ?_, hf⟩
  · rcases hk with hk | hk
    · exact hp k hk
    · have := (h.lt k hk).1; omega
  · rcases hk with hk | rfl | hk
    · exact ⟨.inl (.inl hk), Nat.lt_of_lt_of_le (hxs k (.inl hk)) hf.size⟩
    · exact ⟨.inl (.inr (.inl rfl)), blk_lt h1.g⟩
    · refine ⟨?_, (h1.lt k (.inr hk)).2⟩
      rcases hat with e | hat
      · exact .inl (.inr (.inr (by rw [← e]; exact hk)))
      · exact .inr (hat k hk)
  · rcases e with rfl | e
    · exact hX _ hk (.inl rfl)
    · rcases hat with e2 | hat
      · exact hX k hk (.inr (by rw [← e2]; exact e))
      · have := hat k e
        have := hxs k (.inl hk)
        omega
set_option maxHeartbeats 4000000 in
set_option maxRecDepth 100000 in
theorem wcan_no (h : RW N w R v now L) (hn : (ids L).Nodup) (id : Int) (hl : L.length ≤ 100000) (ho : tof L id = none) : Calls Tryd.prog 43 #[ptr R, .int .i64 id] w fun e w' => e = .returned (.agg #[.int .u64 0, .bool false]) ∧ Below w.heap.size w w' := by
  have hbx : Below w.heap.size w (w.alloc (.cells #[.int .u64 0, .bool false] 64)) := below_alloc (Below.refl _ _) _
  have HX := Aside0.mk (blk_new w (.cells #[.int .u64 0, .bool false] 64))
  have HA := Aside0.mk (wat_calls (h.step hbx) hn id (by omega) none ho)
  have HBX := Aside0.mk hbx
  clear h hn ho hbx
  go_enter Tryd.func43, Tryd.ntmps43
  go_upto_region 2 with (go_at_call 49; refine HA.out.mono ?_; rintro e w1 ⟨rfl, hb1⟩)
  have hb := Aside0.mk (below_step (below_step HBX.out hb1) (below_alloc (Below.refl w1.heap.size w1) (.cells #[.int .u64 0, .bool false] 64)))
  have hX1 := Aside0.mk (blk_alloc (blk_below HX.out hb1) (.cells #[.int .u64 0, .bool false] 64))
  have hY1 := Aside0.mk (blk_new w1 (.cells #[.int .u64 0, .bool false] 64))
  clear hb1 HX HA HBX
  have x0 : (w1.alloc (.cells #[.int .u64 0, .bool false] 64)).cell? ⟨w1.heap.size, 0, none⟩ = some (.int .u64 0) := (blk_cell hY1.out 0).trans rfl
  have x1 : (w1.alloc (.cells #[.int .u64 0, .bool false] 64)).cell? ⟨w1.heap.size, 1, none⟩ = some (.bool false) := (blk_cell hY1.out 1).trans rfl
  have y0 : (w1.alloc (.cells #[.int .u64 0, .bool false] 64)).cell? ⟨w.heap.size, 0, none⟩ = some (.int .u64 0) := (blk_cell hX1.out 0).trans rfl
  have y1 : (w1.alloc (.cells #[.int .u64 0, .bool false] 64)).cell? ⟨w.heap.size, 1, none⟩ = some (.bool false) := (blk_cell hX1.out 1).trans rfl
  have z0 := blk_frozen hX1.out 0
  have z1 := blk_frozen hX1.out 1
  obtain ⟨X, hXe⟩ : ∃ X, X = w.heap.size := ⟨_, rfl⟩
  rw [← hXe] at y0 y1 z0 z1 hX1 ⊢
  have HXe := Aside0.mk hXe
  clear hXe
  go_wp2
  refine bodyPost_ret (results_cell_row rfl _ _ X 64 #[.int .u64 0, .bool false] (0, 0) _ rfl (blk_set (blk_set hX1.out 0 _) 1 _) Tryd.underlying64 rfl (by kernel_rfl)) rfl ?_
  refine ⟨rfl, ?_⟩
  rw [HXe.out]
  exact below_set (below_set hb.out (Nat.le_refl _)) (Nat.le_refl _)
set_option maxHeartbeats 8000000 in
set_option maxRecDepth 100000 in
theorem wcan_yes (h : RW N w R v now L) (hn : (ids L).Nodup) (id a : Int) (hl : L.length ≤ 100000) (ho : tof L id = some a) :
    Calls Tryd.prog 43 #[ptr R, .int .i64 id] w fun e w' => e = .returned (.agg #[.int .u64 a, .bool true]) ∧ Aside0 (RWo N w R v w' now (rm L id)) := by
  have hbx : Below w.heap.size w (w.alloc (.cells #[.int .u64 0, .bool false] 64)) := below_alloc (Below.refl _ _) _
  have HX := Aside0.mk (blk_new w (.cells #[.int .u64 0, .bool false] 64))
  have HBX := Aside0.mk hbx
  have HAT := Aside0.mk (wat_calls (h.step hbx) hn id (by omega) (some a) ho)
  obtain ⟨k, hk, a2, e0, hp, ha⟩ : ∃ (k : Nat) (hk : k < L.length) (a2 : Int), some a = some a2 ∧ plw id L 0 = (k : Int) ∧ L[k] = ⟨id, a2⟩ := by
    rcases plw_tof hn ho with ⟨e, _⟩ | h5
    · cases e
    · exact h5
  have hrm : L.take k ++ L.drop (k + 1) = rm L id := by rw [rm_at k hk hn, ha]
  have HF := Aside0.mk (fun w' (hb : Below w.heap.size w w') => wfind_calls (h.step hb) id (show L.length ≤ 1000000 by omega))
  rw [hp] at HF
  obtain ⟨A, c, e1, hc, hC⟩ := Kd.R_reads h.r
  subst e1
  have HC := Aside0.mk hC
  obtain ⟨j, hj⟩ : ∃ j : Int, ((k + 1 : Nat) : Int) = j := ⟨_, rfl⟩
  have hjw : IntKind.i64.wrap ((k : Int) + 1) = j := by rw [i64_w]; unfold wrap64; omega
  have hjw2 : IntKind.i64.wrap j = j := by clear hjw; rw [i64_w]; unfold wrap64; omega
  obtain ⟨i0, hi0, hzz⟩ := Option.map_eq_some_iff.1 info31
  simp only [Prod.mk.injEq] at hzz
  have hsz0 := hzz.2.1
  have q1 := cut_to (P := Tryd.prog) 42 31 .i64 Tryd.underlying42 hi0 A L.length c (k : Int) (by omega) (by omega) hc
  have q2 := cut_from (P := Tryd.prog) 42 31 .i64 Tryd.underlying42 hi0 2 hsz0 A L.length c j (by omega) (by omega)
  rw [Int.toNat_natCast] at q1
  obtain ⟨A4, hA4⟩ : ∃ A4, A4 = (if c = j.toNat then A else A.map (·.add (j.toNat * 2))) := ⟨_, rfl⟩
  rw [← hA4] at q2
  have HJ := Aside0.mk hj
  have HLL : Aside0 (L.length ≤ 100000 ∧ k < L.length ∧ j.toNat = k + 1) := ⟨⟨hl, hk, by omega⟩⟩
  have hk1 : 0 ≤ (k : Int) := by omega
  have hk2 : (k : Int) ≤ (L.length : Int) := by omega
  have hj0 : 0 ≤ j := by omega
  have hj2 : j ≤ (L.length : Int) := by omega
  have H := Aside0.mk h
  have HA4 := Aside0.mk hA4
  have Hc := Aside0.mk hc
  have HRM := Aside0.mk hrm
  clear h hC hj hA4 hzz hsz0 hi0 hc hp hbx hn ho ha e0 hrm
  go_enter Tryd.func43, Tryd.ntmps43
  go_upto_region 2 with (go_at_call 49; refine HAT.out.mono ?_; rintro e w1 ⟨rfl, hb1⟩)
  have hb2 := Aside0.mk (below_step (below_step HBX.out hb1) (below_alloc (Below.refl w1.heap.size w1) (.cells #[.int .u64 a, .bool true] 64)))
  have HX1 := Aside0.mk (blk_alloc (blk_below HX.out hb1) (.cells #[.int .u64 a, .bool true] 64))
  have HY1 := Aside0.mk (blk_new w1 (.cells #[.int .u64 a, .bool true] 64))
  have hXY : w.heap.size < w1.heap.size := blk_lt (blk_below HX.out hb1)
  have HXY := Aside0.mk hXY
  have x1 : (w1.alloc (.cells #[.int .u64 a, .bool true] 64)).cell? ⟨w1.heap.size, 1, none⟩ = some (.bool true) := (blk_cell HY1.out 1).trans rfl
  clear hb1 HX HAT HBX hXY
  generalize w1.alloc (.cells #[.int .u64 a, .bool true] 64) = w2 at hb2 HX1 HY1 x1 ⊢
  generalize w1.heap.size = Y at HY1 HXY x1 ⊢
  go_upto_region 4 with (go_at_call 75; refine (HF.out _ hb2.out).mono ?_; rintro e w3 ⟨rfl, hb3⟩)
  have hb := Aside0.mk (below_step hb2.out hb3)
  have HX3 := Aside0.mk (blk_below HX1.out hb3)
  have HY3 := Aside0.mk (blk_below HY1.out hb3)
  have HM := Aside0.mk (H.out.step hb.out)
  have c0 : w3.cell? ⟨R, 0, none⟩ = some (.slice A L.length c) := (blk_cell HM.out.g 0).trans rfl
  clear hb2 hb3 HX1 HY1 x1 HF
  refine start_ (n := 20) (S := fun w' => w'.cell? ⟨R, 0, none⟩ = some (.slice A L.length c)) (ds := [19]) #[false, false, false, false, false, false, false, false, false, false, false, false, false, false, false, false, false, false, false, false] (by kernel_rfl) rfl rfl c0 (fun hHeld => ?_)
  have hb2 := below_drew1 (Below.refl w3.heap.size w3)
  have HM2 := Aside0.mk (HM.out.step hb2)
  have hB2 := Aside0.mk (below_step hb.out hb2)
  have HX2 := Aside0.mk (blk_below HX3.out hb2)
  have HY2 := Aside0.mk (blk_below HY3.out hb2)
  generalize w3.drew = W2 at hHeld HM2 hB2 HX2 HY2 ⊢
  clear c0 hb2 HM hb HX3 HY3
  have HS2 := Aside0.mk hHeld
  have HR2 : Aside0 (R < W2.heap.size) := ⟨blk_lt HM2.out.g⟩
  have HC2 := Aside0.mk (Kd.C_below HC.out hB2.out)
  have hbA := Aside0.mk (below_alloc (Below.refl W2.heap.size W2) (.cells #[] 31))
  have HCT : Aside0 (Kd.C k31 (W2.alloc (.cells #[] 31)) A k (L.take k)) := ⟨by have h := Kd.C_take (m := k) (Kd.C_below HC2.out hbA.out) (by have := HLL.out; omega); rw [List.length_take, Nat.min_eq_left (by have := HLL.out; omega)] at h; exact h⟩
  have HCD : Aside0 (Kd.C k31 W2 A4 (L.length - j.toNat) (L.drop j.toNat)) := ⟨by rw [HA4.out]; have h := Kd.C_drop (m := j.toNat) (c := c) HC2.out (by have := HLL.out; omega) Hc.out; rw [List.length_drop] at h; exact h⟩
  refine pure_ (i := 0) (N := some 15) (v := ?_) (a' := ?_) #[true, false, false, false, false, false, false, false, false, false, false, false, false, false, false, false, false, false, false, false] rfl rfl (by kernel_rfl) (fun _ _ _ h => h) (Or.inl ⟨by rfl, ?_⟩) ?_ ?_
  rotate_left
  · intro w'
    go_simp
    with_reducible rfl
  rotate_left
  · simp only [Act.put, List.setIfInBounds_toArray, List.set_cons_zero, List.set_cons_succ]
    rfl
  refine pure_ (i := 2) (N := some 17) (v := ?_) (a' := ?_) #[true, false, true, false, false, false, false, false, false, false, false, false, false, false, false, false, false, false, false, false] rfl rfl (by kernel_rfl) (fun _ _ _ h => h) (Or.inl ⟨by rfl, ?_⟩) ?_ ?_
  rotate_left
  · intro w'
    go_simp
    with_reducible rfl
  rotate_left
  · simp only [Act.put, List.setIfInBounds_toArray, List.set_cons_zero, List.set_cons_succ]
    rfl
  refine pure_ (i := 3) (N := some 18) (v := ?_) (a' := ?_) #[true, false, true, true, false, false, false, false, false, false, false, false, false, false, false, false, false, false, false, false] rfl rfl (by kernel_rfl) (fun _ _ _ h => h) (Or.inl ⟨by rfl, ?_⟩) ?_ ?_
  rotate_left
  · intro w'
    go_simp
    with_reducible rfl
  rotate_left
  · simp only [Act.put, List.setIfInBounds_toArray, List.set_cons_zero, List.set_cons_succ]
    rfl
  refine pure_ (i := 4) (N := some 19) (v := ?_) (a' := ?_) #[true, false, true, true, true, false, false, false, false, false, false, false, false, false, false, false, false, false, false, false] rfl rfl (by kernel_rfl) (fun _ _ _ h => h) (Or.inl ⟨by rfl, ?_⟩) ?_ ?_
  rotate_left
  · intro w'
    go_simp
    with_reducible rfl
  rotate_left
  · simp only [Act.put, List.setIfInBounds_toArray, List.set_cons_zero, List.set_cons_succ]
    rfl
  refine take_ (i := 5) (N := some 20) (v := ?_) (a' := ?_) #[true, false, true, true, true, true, false, false, false, false, false, false, false, false, false, false, false, false, false, false] rfl rfl (by kernel_rfl) (fun _ _ _ h => h) (Or.inl ⟨by rfl, ?_⟩) hHeld ?_ ?_
  rotate_left
  · intro w' s0
    go_simp
    with_reducible rfl
  rotate_left
  · simp only [Act.put, List.setIfInBounds_toArray, List.set_cons_zero, List.set_cons_succ]
    rfl
  refine pure_ (i := 6) (N := some 21) (v := ?_) (a' := ?_) #[true, false, true, true, true, true, true, false, false, false, false, false, false, false, false, false, false, false, false, false] rfl rfl (by kernel_rfl) (fun _ _ _ h => h) (Or.inl ⟨by rfl, ?_⟩) ?_ ?_
  rotate_left
  · intro w'
    go_simp
    with_reducible rfl
  rotate_left
  · simp only [Act.put, List.setIfInBounds_toArray, List.set_cons_zero, List.set_cons_succ]
    rfl
  refine pure_ (i := 7) (N := some 22) (v := ?_) (a' := ?_) #[true, false, true, true, true, true, true, true, false, false, false, false, false, false, false, false, false, false, false, false] rfl rfl (by kernel_rfl) (fun _ _ _ h => h) (Or.inl ⟨by rfl, ?_⟩) ?_ ?_
  rotate_left
  · intro w'
    go_simp
    with_reducible rfl
  rotate_left
  · simp only [Act.put, List.setIfInBounds_toArray, List.set_cons_zero, List.set_cons_succ]
    rfl
  refine pure_ (i := 9) (N := some 24) (v := ?_) (a' := ?_) #[true, false, true, true, true, true, true, true, false, true, false, false, false, false, false, false, false, false, false, false] rfl rfl (by kernel_rfl) (fun _ _ _ h => h) (Or.inl ⟨by rfl, ?_⟩) ?_ ?_
  rotate_left
  · intro w'
    go_simp
    with_reducible rfl
  rotate_left
  · simp only [Act.put, List.setIfInBounds_toArray, List.set_cons_zero, List.set_cons_succ]
    rfl
  refine pure_ (i := 10) (N := some 25) (v := ?_) (a' := ?_) #[true, false, true, true, true, true, true, true, false, true, true, false, false, false, false, false, false, false, false, false] rfl rfl (by kernel_rfl) (fun _ _ _ h => h) (Or.inl ⟨by rfl, ?_⟩) ?_ ?_
  rotate_left
  · intro w'
    go_simp
    with_reducible rfl
  rotate_left
  · simp only [Act.put, List.setIfInBounds_toArray, List.set_cons_zero, List.set_cons_succ]
    rfl
  refine pure_ (i := 11) (N := some 26) (v := ?_) (a' := ?_) #[true, false, true, true, true, true, true, true, false, true, true, true, false, false, false, false, false, false, false, false] rfl rfl (by kernel_rfl) (fun _ _ _ h => h) (Or.inl ⟨by rfl, ?_⟩) ?_ ?_
  rotate_left
  · intro w'
    go_simp
    with_reducible rfl
  rotate_left
  · simp only [Act.put, List.setIfInBounds_toArray, List.set_cons_zero, List.set_cons_succ]
    rfl
  refine take_ (i := 12) (N := some 27) (v := ?_) (a' := ?_) #[true, false, true, true, true, true, true, true, false, true, true, true, true, false, false, false, false, false, false, false] rfl rfl (by kernel_rfl) (fun _ _ _ h => h) (Or.inl ⟨by rfl, ?_⟩) hHeld ?_ ?_
  rotate_left
  · intro w' s0
    go_simp
    with_reducible rfl
  rotate_left
  · simp only [Act.put, List.setIfInBounds_toArray, List.set_cons_zero, List.set_cons_succ]
    rfl
  refine pure_ (i := 13) (N := some 28) (v := ?_) (a' := ?_) #[true, false, true, true, true, true, true, true, false, true, true, true, true, true, false, false, false, false, false, false] rfl rfl (by kernel_rfl) (fun _ _ _ h => h) (Or.inl ⟨by rfl, ?_⟩) ?_ ?_
  rotate_left
  · intro w'
    go_simp
    with_reducible rfl
  rotate_left
  · simp only [Act.put, List.setIfInBounds_toArray, List.set_cons_zero, List.set_cons_succ]
    rfl
  refine pure_ (i := 14) (N := some 29) (v := ?_) (a' := ?_) #[true, false, true, true, true, true, true, true, false, true, true, true, true, true, true, false, false, false, false, false] rfl rfl (by kernel_rfl) (fun _ _ _ h => h) (Or.inl ⟨by rfl, ?_⟩) ?_ ?_
  rotate_left
  · intro w'
    go_simp
    with_reducible rfl
  rotate_left
  · simp only [Act.put, List.setIfInBounds_toArray, List.set_cons_zero, List.set_cons_succ]
    rfl
  refine pure_ (i := 15) (N := some 30) (v := ?_) (a' := ?_) #[true, false, true, true, true, true, true, true, false, true, true, true, true, true, true, true, false, false, false, false] rfl rfl (by kernel_rfl) (fun _ _ _ h => h) (Or.inl ⟨by rfl, ?_⟩) ?_ ?_
  rotate_left
  · intro w'
    go_simp
    with_reducible rfl
  rotate_left
  · simp only [Act.put, List.setIfInBounds_toArray, List.set_cons_zero, List.set_cons_succ]
    rfl
  refine one_ (i := 1) (N := some 16) #[true, true, true, true, true, true, true, true, false, true, true, true, true, true, true, true, false, false, false, false] rfl rfl (by kernel_rfl) (by decide) (fun K hK => ?_)
  refine event_step (v := .slice (some ⟨W2.heap.size, 0, none⟩) 0 0) (w1 := W2.alloc (.cells #[] 31)) (by rfl) (by go_simp) ?_
  refine hK.out _ _ ((hbA.out.cell (p := ⟨R, 0, none⟩) HR2.out).trans hHeld) (fun hHeld => ?_)
  clear hK K
  refine norm_ (a' := ?_) ?_ ?_
  rotate_left
  · show Act.put _ (some 16) _ = _
    simp only [Act.put, List.setIfInBounds_toArray, List.set_cons_zero, List.set_cons_succ]
    rfl
  refine one_ (i := 8) (N := some 23) #[true, true, true, true, true, true, true, true, true, true, true, true, true, true, true, true, false, false, false, false] rfl rfl (by kernel_rfl) (by decide) (fun K hK => ?_)
  refine step_rows (K := _) W2.heap.size (by rfl) (.tmp 16) (.tmp 22) (by rfl) (.slice (some ⟨W2.heap.size, 0, none⟩) 0 0) [] A k c (L.take k) (by rfl) (by rfl) (R2_lit0 W2) HCT.out hbA.out.size (by simp only [List.length_nil]; have := HLL.out; omega) ?_
  intro v3 w3 HV3 hb3
  have hb3 := Aside0.mk (hbA.out.trans hb3)
  have HV3 := Aside0.mk HV3
  refine hK.out _ _ ((hb3.out.cell (p := ⟨R, 0, none⟩) HR2.out).trans HS2.out) (fun hHeld => ?_)
  clear hK K
  refine norm_ (a' := ?_) ?_ ?_
  rotate_left
  · show Act.put _ (some 23) _ = _
    simp only [Act.put, List.setIfInBounds_toArray, List.set_cons_zero, List.set_cons_succ]
    rfl
  refine one_ (i := 16) (N := some 31) #[true, true, true, true, true, true, true, true, true, true, true, true, true, true, true, true, true, false, false, false] rfl rfl (by kernel_rfl) (by decide) (fun K hK => ?_)
  refine step_rows (K := _) W2.heap.size (by rfl) (.tmp 23) (.tmp 30) (by rfl) v3 ([] ++ L.take k) A4 (L.length - j.toNat) (c - j.toNat) (L.drop j.toNat) (by rfl) (by rfl) HV3.out (Kd.C_below HCD.out hb3.out) hb3.out.size (by have := HLL.out; simp; omega) ?_
  intro v4 w4 HV4 hb4
  have hb4 := Aside0.mk (hb3.out.trans hb4)
  have HV4 := Aside0.mk HV4
  refine hK.out _ _ ((hb4.out.cell (p := ⟨R, 0, none⟩) HR2.out).trans HS2.out) (fun hHeld => ?_)
  clear hK K
  refine norm_ (a' := ?_) ?_ ?_
  rotate_left
  · show Act.put _ (some 31) _ = _
    simp only [Act.put, List.setIfInBounds_toArray, List.set_cons_zero, List.set_cons_succ]
    rfl
  refine pure_ (i := 17) (N := some 32) (v := ?_) (a' := ?_) #[true, true, true, true, true, true, true, true, true, true, true, true, true, true, true, true, true, true, false, false] rfl rfl (by kernel_rfl) (fun _ _ _ h => h) (Or.inl ⟨by rfl, ?_⟩) ?_ ?_
  rotate_left
  · intro w'
    go_simp
    with_reducible rfl
  rotate_left
  · simp only [Act.put, List.setIfInBounds_toArray, List.set_cons_zero, List.set_cons_succ]
    rfl
  refine pure_ (i := 18) (N := some 33) (v := ?_) (a' := ?_) #[true, true, true, true, true, true, true, true, true, true, true, true, true, true, true, true, true, true, true, false] rfl rfl (by kernel_rfl) (fun _ _ _ h => h) (Or.inl ⟨by rfl, ?_⟩) ?_ ?_
  rotate_left
  · intro w'
    go_simp
    with_reducible rfl
  rotate_left
  · simp only [Act.put, List.setIfInBounds_toArray, List.set_cons_zero, List.set_cons_succ]
    rfl
  refine last_ (i := 19) (N := none) #[true, true, true, true, true, true, true, true, true, true, true, true, true, true, true, true, true, true, true, true] rfl rfl (by kernel_rfl) (by decide) (fun K hK => ?_)
  obtain ⟨A5, c5, rfl⟩ := Kd.R_slice HV4.out
  have hB4 := Aside0.mk (blk_below HM2.out.g hb4.out)
  have hs : w4.cell? ⟨R, 0, none⟩ = some (.slice A L.length c) := (blk_cell hB4.out 0).trans rfl
  have hfs := blk_frozen hB4.out 0
  refine skip_ (w1 := ?_) (by rfl) rfl ?_ ?_
  rotate_left
  · go_simp
    rfl
  refine hK.out _ _ ?_
  clear hK K
  refine done_ (by kernel_rfl) ?_
  have hR9 := HV4.out
  have hLe : [] ++ L.take k ++ L.drop j.toNat = rm L id := by rw [List.nil_append, HLL.out.2.2, HRM.out]
  rw [hLe] at hR9
  have hput := Aside0.mk (HM2.out.put hb4.out hR9)
  obtain ⟨n5, hn5⟩ : ∃ n, ([] ++ L.take k ++ L.drop j.toNat).length = n := ⟨_, rfl⟩
  have hn6 : (rm L id).length = n5 := by rw [← hLe, hn5]
  rw [hn6] at hput
  obtain ⟨m5, hm5⟩ : ∃ m, min k L.length + (L.length - j.toNat) = m := ⟨_, rfl⟩
  have hm6 : m5 = n5 := by rw [← hm5, ← hn5]; simp
  simp only [hLe, hn6, hm5, hm6]
  have hXR : w.heap.size ≠ R := fun e => by have := blk_lt H.out.g; omega
  have hYR : Y ≠ R := fun e => by have := blk_lt H.out.g; have := HXY.out; omega
  have hYX : Y ≠ w.heap.size := fun e => by have := HXY.out; omega
  have hX6 := Aside0.mk (((Fr.set w4 R 0 (.slice A5 n5 c5)).blk w.heap.size (blk_lt (blk_below HX2.out hb4.out)) hXR).trans (blk_below HX2.out hb4.out))
  have hY6 := Aside0.mk (((Fr.set w4 R 0 (.slice A5 n5 c5)).blk Y (blk_lt (blk_below HY2.out hb4.out)) hYR).trans (blk_below HY2.out hb4.out))
  have hWW : Aside0 (w.heap.size < W2.heap.size ∧ Y < W2.heap.size) := ⟨⟨blk_lt HX2.out, blk_lt HY2.out⟩⟩
  generalize w4.setCell ⟨R, 0, none⟩ (.slice A5 n5 c5) = w6 at hput hX6 hY6 ⊢
  clear hb4 HV4 hB4 hs hfs hHeld hR9 HV3 hb3 hn6 hLe hm6
  have HXR := Aside0.mk (And.intro hXR (And.intro hYR hYX))
  clear hXR hYR hYX
  have v0 : w6.cell? ⟨Y, 0, none⟩ = some (.int .u64 a) := (blk_cell hY6.out 0).trans rfl
  have v1 : w6.cell? ⟨Y, 1, none⟩ = some (.bool true) := (blk_cell hY6.out 1).trans rfl
  have y0 : w6.cell? ⟨w.heap.size, 0, none⟩ = some (.int .u64 0) := (blk_cell hX6.out 0).trans rfl
  have y1 : w6.cell? ⟨w.heap.size, 1, none⟩ = some (.bool false) := (blk_cell hX6.out 1).trans rfl
  have z0 := blk_frozen hX6.out 0
  have z1 := blk_frozen hX6.out 1
  obtain ⟨X, hXe⟩ : ∃ X, X = w.heap.size := ⟨_, rfl⟩
  rw [← hXe] at y0 y1 z0 z1 hX6 ⊢
  have HXe := Aside0.mk hXe
  clear hXe
  go_wp2
  refine bodyPost_ret (results_cell_row rfl _ _ X 64 #[.int .u64 a, .bool true] (0, 0) _ rfl (blk_set (blk_set hX6.out 0 _) 1 _) Tryd.underlying64 rfl (by kernel_rfl)) rfl ?_
  have f1 : Fr (fun k => k = X) w6 ((w6.setCell ⟨X, 0, none⟩ (.int .u64 a)).setCell ⟨X, 1, none⟩ (.bool true)) := (Fr.set w6 X 0 _).trans (Fr.set _ X 1 _)
  refine ⟨rfl, ⟨_, hput.out.1.keep f1 (fun k hk e => ?_), ((Fr.of_below hB2.out).trans hput.out.2.1).then_ f1 (fun b hb => .inr ?_), .inr (fun b hb => ?_)⟩⟩
  · have e2 : k = w.heap.size := e.trans HXe.out
    rcases hk with rfl | hk
    · exact HXR.out.1 e2.symm
    · have := hput.out.2.2 k hk
      have := hWW.out.1
      omega
  · have e2 : b = w.heap.size := hb.trans HXe.out
    omega
  · have := hput.out.2.2 b hb
    have := hB2.out.size
    omega
/-- The reference's Cancel. -/
theorem wcan_calls (h : RW N w R v now L) (hn : (ids L).Nodup) (id : Int) (hl : L.length ≤ 100000) (o : Option Int) (ho : tof L id = o) :
    Calls Tryd.prog 43 #[ptr R, .int .i64 id] w fun e w' => e = .returned (.agg #[.int .u64 (o.getD 0), .bool o.isSome]) ∧ Aside0 (RWo N w R v w' now (rm L id)) := by
  cases o with
  | some a => exact wcan_yes h hn id a hl ho
  | none =>
    refine (wcan_no h hn id hl ho).mono ?_
    rintro e w' ⟨rfl, hb⟩
    rw [rm_none (tof_none.1 ho)]
    exact ⟨rfl, ⟨h.go hb⟩⟩
end
end Go.Proofs.YtedolmjealgeoaaDoor.Wh
