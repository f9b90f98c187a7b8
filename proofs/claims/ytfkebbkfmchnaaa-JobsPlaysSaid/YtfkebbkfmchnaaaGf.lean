/- The reference's Fail, Rested beside ours. Conditions: the book lies in memory as told. -/
import Derived.Test.YtfkebbkfmchnaaaGe
set_option linter.unusedVariables false
namespace Go.Proofs.Ytfkebbkfmchnaaa.Bk
open Go.RowKit Go.Proofs.Ytfkebbkfmchnaaa.PBase Go.Proofs.Ytfkebbkfmchnaaa.Heap Go.Proofs.Ytfkebbkfmchnaaa.Ln Go.Proofs.Ytfkebbkfmchnaaa.Lst Go.Proofs.Ytfkebbkfmchnaaa.PStp Go.Proofs.YtfkebbkfmchnaaaW.PrintWords Go.Proofs.YtfkebbkfmchnaaaW.PrintLast Go.Proofs.YtfkebbkfmchnaaaW.PrintMore
theorem set_setJ {l : List Jb} (nd : (l.map jid).Nodup) {k : Nat} (hk : k < l.length) (id : Int) (hi : l[k].id = id) (s u : Int) : l.set k ⟨l[k].id, l[k].cls, s, u⟩ = Bk.setJ l id s u := by
  unfold Bk.setJ
  apply List.ext_getElem
  · simp
  · intro i h1 h2
    rw [List.getElem_set, List.getElem_map]
    have hil : i < l.length := by simpa using h1
    by_cases e : k = i
    · subst e
      rw [if_pos rfl, if_pos hi]
    · rw [if_neg e, if_neg]
      intro e2
      have h3 : ∀ a c (ha : a < l.length) (hc : c < l.length), a < c → l[a].id ≠ l[c].id := fun a c ha hc hlt e3 => by
        have := List.pairwise_iff_getElem.1 nd a c (by simpa using ha) (by simpa using hc) hlt
        rw [List.getElem_map, List.getElem_map] at this
        exact this e3
      rcases Nat.lt_or_gt_of_ne e with h4 | h4
      · exact h3 k i hk hil h4 (hi.trans e2.symm)
      · exact h3 i k hil hk h4 (e2.trans hi.symm)
theorem rm_setJ (l : List Jb) (id s u : Int) : Lst.rm jid (Bk.setJ l id s u) id = Lst.rm jid l id := by
  induction l with
  | nil => rfl
  | cons a l ih =>
    unfold Bk.setJ Lst.rm at ih ⊢
    rw [List.map_cons]
    by_cases e : a.id = id
    · rw [if_pos e, List.filter_cons_of_neg (by simp [jid, e]), List.filter_cons_of_neg (by simp [jid, e]), ih]
    · rw [if_neg e, List.filter_cons_of_pos (by simp [jid, e]), List.filter_cons_of_pos (by simp [jid, e]), ih]
theorem fld100 (s u : Int) (w : World) : (Instr.field 100 (.agg #[.int .i64 s, .int .i64 u, .bool true]) 0).run Try.prog w = .ok (.agg #[.int .i64 s, .int .i64 u]) w := by
  simp [Instr.field, run_underlying Try.underlying100, part, asAgg, go_sem]
section
variable {N : Nat} {w w' : World} {R : Nat} {X : Nat → Prop} {b : Book} {vq vl vj : Value} {ag rm ct last tr : Int} {LQ : List S77} {Ls : List Gr} {Js : List Jb}
theorem RB.elemAt {g n cap : Nat} (h : RB N w R vq vl (.slice (some ⟨g, 0, none⟩) n cap) ag rm ct last tr LQ Ls Js) (i : Nat) (hi : i < Js.length) : g ≠ R ∧ g < w.heap.size ∧ (∀ j, w.frozen? ⟨g, j, none⟩ = false) ∧ w.cell? ⟨g, i * 4 + 1, none⟩ = some (.int .i64 Js[i].cls) ∧ w.cell? ⟨g, i * 4 + 2, none⟩ = some (.int .i64 Js[i].st) ∧ w.cell? ⟨g, i * 4 + 3, none⟩ = some (.int .i64 Js[i].us) := by
  obtain ⟨g', cap', e, h2⟩ := h.elem i hi
  cases e
  exact h2
/-! ### Fail -/
set_option maxHeartbeats 8000000 in
set_option maxRecDepth 100000 in
theorem rfail_no (h : RI N w R X b) (hI : Inv b) (hct : b.ct ≤ 10000) (n : Int) (hg : lk gno b.Ls n = none) : Calls Try.prog 26 #[ptr R, .int .i64 n] w fun e w' => e = .returned (.tuple #[.int .i64 0, .bool false, .int .i64 13]) ∧ Aside0 (RIGo N w R X w' b) := by
  obtain ⟨vq, vl, vj, LQ, hR, hp, ha, rfl⟩ := h.ex
  have hll := hI.llen
  have hrm := hI.rm
  have hle := hI.le
  have hct0 := hI.ct
  have hdr := rtdrop hR n (by omega) ⟨0, 0, 0⟩ (by rw [hg]; rfl) false (by rw [hg]; rfl)
  rw [rm_no (lk_none.1 hg)] at hdr
  have hdr := Aside0.mk hdr
  have H := Aside0.mk (And.intro hR (And.intro hp ha))
  clear h hI hR hp ha hll hrm hle hct0 hct
  go_enter Try.func26, Try.ntmps26
  go_upto_region 2 with (go_at_call 49; refine hdr.out.mono ?_; rintro e w1 ⟨rfl, hz⟩)
  obtain ⟨vl', h1, ha1, hm1⟩ := H.out.1.goL H.out.2.2 hz.out
  have hb2 : Below w1.heap.size w1 (w1.alloc (.cells #[.int .i64 0, .int .i64 0, .int .u64 0, .bool false] 104)) := below_alloc (Below.refl _ _) _
  have hE := Aside0.mk (⟨_, ⟨⟨vq, vl', vj, LQ, h1.step hb2, H.out.2.1, ha1, rfl⟩⟩, hm1.below hb2⟩ : RIGo N w R _ _ b)
  have hy2 := blk_new w1 (.cells #[.int .i64 0, .int .i64 0, .int .u64 0, .bool false] 104)
  have y3 := (blk_cell hy2 3).trans rfl
  clear h1 ha1 hm1 hb2 hy2
  go_wp2
  go_ret3
  exact ⟨rfl, hE⟩
set_option maxHeartbeats 8000000 in
set_option maxRecDepth 100000 in
theorem rfail_dead (h : RI N w R X b) (hI : Inv b) (hct : b.ct ≤ 10000) (n0 : Int) (g : Gr) (hg : lk gno b.Ls n0 = some g) (hd : b.tr < usedOf b g.j) : Calls Try.prog 26 #[ptr R, .int .i64 n0] w fun e w' => e = .returned (.tuple #[.int .i64 g.j, .bool true, .int .i64 0]) ∧ Aside0 (RIGo N w R X w' (goneB b g.j)) := by
  obtain ⟨vq, vl, vj, LQ, hR, hp, ha, rfl⟩ := h.ex
  have hll := hI.llen
  have hrm := hI.rm
  have hle := hI.le
  have hct0 := hI.ct
  obtain ⟨j, hj, hji, hjs, hjk, hu1, hu2, hjw⟩ := hI.job (lk_mem hg).1
  have hus : usedOf b g.j = j.us := by unfold usedOf; rw [hjk]; rfl
  have hnw : g.j ∉ ids b.L := by
    rw [← hji]
    exact hI.not_waits hj (by omega)
  have hrme : Lst.rm gno b.Ls n0 = Lst.rm gjo b.Ls g.j := by
    rw [← (lk_mem hg).2]
    exact rm_eq hI.gn hI.gj (lk_mem hg).1
  obtain ⟨k, hk, hpk, hkj⟩ := pos_some hjk
  rw [hus] at hd
  obtain ⟨us, hu⟩ : ∃ us, j.us = us := ⟨_, rfl⟩
  rw [hu] at hd hu1 hu2
  have hst : remontoirref11_Step.f 9 b.tr 2 us 3 = some (5, us, true) := by
    have h1 := rstep_fail hI.tr ⟨hu1, hu2⟩
    rw [if_pos hd] at h1
    exact h1
  have hset : b.Js.set k ⟨b.Js[k].id, b.Js[k].cls, 5, us⟩ = Bk.setJ b.Js g.j 5 us := set_setJ hI.nd hk g.j (by rw [hkj]; exact hji) 5 us
  have hdr := rtdrop hR n0 (by omega) g (by rw [hg]; rfl) true (by rw [hg]; rfl)
  rw [hrme] at hdr
  have hdr := Aside0.mk hdr
  have hlj : b.Js.length ≤ 100000 := by omega
  have hkn : (k : Int) < (b.Js.length : Int) := by omega
  have hk0 : (0 : Int) ≤ (k : Int) := by omega
  have hjl2 : (b.Js.length : Int) ≤ 1000000 := by omega
  have hks : b.Js[k].st = 2 := by rw [hkj]; exact hjs
  have hku : b.Js[k].us = us := by rw [hkj]; exact hu
  have HKS := Aside0.mk (And.intro hks hku)
  obtain ⟨gb, cap, e, _⟩ := hR.elem k hk
  subst e
  have H := Aside0.mk (And.intro hR (And.intro hp ha))
  have HN := Aside0.mk (And.intro hnw (And.intro hset (And.intro hlj (And.intro hpk (hus.trans hu)))))
  have HS := Aside0.mk hst
  have HP := Aside0.mk hp
  clear h hI hR hp ha hll hrm hle hct0 hct hrme hnw hj hji hjs hjk hu1 hu2 hjw hus hg hlj hpk hkj hu hst hset hd hks hku
  go_enter Try.func26, Try.ntmps26
  go_upto_region 4 with (go_at_call 49; refine hdr.out.mono ?_; rintro e w1 ⟨rfl, hz⟩)
  obtain ⟨vl', h1, ha1, hm1⟩ := H.out.1.goL H.out.2.2 hz.out
  generalize hw2 : w1.alloc (.cells #[.int .i64 g.n, .int .i64 g.j, .int .u64 g.u, .bool true] 104) = w2
  have hb2 : Below w1.heap.size w1 w2 := by rw [← hw2]; exact below_alloc (Below.refl _ _) _
  have hy2 : w2.heap[w1.heap.size]? = some (.cells #[.int .i64 g.n, .int .i64 g.j, .int .u64 g.u, .bool true] 104 (0, 0)) := by rw [← hw2]; exact blk_new _ _
  have h2 := h1.step hb2
  have hm2 := hm1.below hb2
  have y1 := (blk_cell hy2 1).trans rfl
  have hlt1 : ∀ k, own3 R vq vl' _ k → k < w1.heap.size := fun k hk => (h1.lt3 k hk).2
  have hfi := rfind12 h2 g.j (by have := HN.out.2.2.1; omega) k HN.out.2.2.2.1
  have H2 := Aside0.mk (And.intro h2 (And.intro ha1 (And.intro hm2 (And.intro hy2 hlt1))))
  clear hw2 h1 ha1 hm1 hb2 hy2 h2 hm2 hlt1 H hdr
  go_upto_region 5 with (go_at_call 30; refine hfi.mono ?_; clear hfi; rintro e W0 ⟨rfl, hb0⟩)
  obtain ⟨h2, ha1, hm2, hy2, hlt1⟩ := H2.out
  have HM := Aside0.mk (h2.step hb0)
  have HA := Aside0.mk ha1
  have hm0 := Aside0.mk (hm2.below hb0)
  have HY : Aside0 (W0.heap[w1.heap.size]? = some (.cells #[.int .i64 g.n, .int .i64 g.j, .int .u64 g.u, .bool true] 104 (0, 0)) ∧ ∀ k, own3 R vq vl' (.slice (some ⟨gb, 0, none⟩) b.Js.length cap) k → k < w1.heap.size) := ⟨blk_below hy2 hb0, hlt1⟩
  clear h2 ha1 hm2 hy2 hlt1 hb0 y1 H2
  generalize hn : b.Js.length = n at hkn hjl2 HM HA hm0 HY
  have c7 : W0.cell? ⟨R, 7, none⟩ = some (.slice (some ⟨gb, 0, none⟩) n cap) := (blk_cell HM.out.blk 7).trans rfl
  have c6 : W0.cell? ⟨R, 6, none⟩ = some (.int .i64 b.tr) := (blk_cell HM.out.blk 6).trans rfl
  obtain ⟨hgR, hgl, _, _, e2, e3⟩ := HM.out.elemAt k hk
  rw [HKS.out.1] at e2
  rw [HKS.out.2] at e3
  refine start_ (n := 22) (S := fun w' => w'.cell? ⟨R, 7, none⟩ = some (.slice (some ⟨gb, 0, none⟩) n cap) ∧ w'.cell? ⟨R, 6, none⟩ = some (.int .i64 b.tr) ∧ w'.cell? ⟨gb, k * 4 + 2, none⟩ = some (.int .i64 2) ∧ w'.cell? ⟨gb, k * 4 + 3, none⟩ = some (.int .i64 us)) (ds := [21]) #[false, false, false, false, false, false, false, false, false, false, false, false, false, false, false, false, false, false, false, false, false, false] (by kernel_rfl) rfl rfl ⟨c7, c6, e2, e3⟩ (fun hHeld => ?_)
  have hb2 := below_drew1 (Below.refl W0.heap.size W0)
  have HM2 := Aside0.mk (HM.out.step hb2)
  have hB2 := Aside0.mk hb2
  generalize W0.drew = W2 at hHeld HM2 hB2 ⊢
  clear c7 c6 e2 e3 hb2 HM hgR hgl
  have kp : Aside0 (∀ w', Below W2.heap.size W2 w' → w'.cell? ⟨R, 7, none⟩ = some (.slice (some ⟨gb, 0, none⟩) n cap) ∧ w'.cell? ⟨R, 6, none⟩ = some (.int .i64 b.tr) ∧ w'.cell? ⟨gb, k * 4 + 2, none⟩ = some (.int .i64 2) ∧ w'.cell? ⟨gb, k * 4 + 3, none⟩ = some (.int .i64 us)) := ⟨fun w' hb => ⟨(hb.cell (p := ⟨R, 7, none⟩) (blk_lt HM2.out.blk)).trans hHeld.1, (hb.cell (p := ⟨R, 6, none⟩) (blk_lt HM2.out.blk)).trans hHeld.2.1, (hb.cell (p := ⟨gb, k * 4 + 2, none⟩) (HM2.out.elemAt k hk).2.1).trans hHeld.2.2.1, (hb.cell (p := ⟨gb, k * 4 + 3, none⟩) (HM2.out.elemAt k hk).2.1).trans hHeld.2.2.2⟩⟩
  have hst := Aside0.mk (rstep_run HS.out W2)
  have hfd := fld100 5 us
  refine pure_ (i := 0) (N := some 23) (v := ?_) (a' := ?_) #[true, false, false, false, false, false, false, false, false, false, false, false, false, false, false, false, false, false, false, false, false, false] rfl rfl (by kernel_rfl) (fun _ _ _ h => h) (Or.inl ⟨by rfl, ?_⟩) ?_ ?_
  rotate_left
  · intro w'
    go_simp
    with_reducible rfl
  rotate_left
  · simp only [Act.put, List.setIfInBounds_toArray, List.set_cons_zero, List.set_cons_succ]
    rfl
  refine pure_ (i := 1) (N := some 24) (v := ?_) (a' := ?_) #[true, true, false, false, false, false, false, false, false, false, false, false, false, false, false, false, false, false, false, false, false, false] rfl rfl (by kernel_rfl) (fun _ _ _ h => h) (Or.inl ⟨by rfl, ?_⟩) ?_ ?_
  rotate_left
  · intro w'
    go_simp
    with_reducible rfl
  rotate_left
  · simp only [Act.put, List.setIfInBounds_toArray, List.set_cons_zero, List.set_cons_succ]
    rfl
  refine pure_ (i := 2) (N := some 25) (v := ?_) (a' := ?_) #[true, true, true, false, false, false, false, false, false, false, false, false, false, false, false, false, false, false, false, false, false, false] rfl rfl (by kernel_rfl) (fun _ _ _ h => h) (Or.inl ⟨by rfl, ?_⟩) ?_ ?_
  rotate_left
  · intro w'
    go_simp
    with_reducible rfl
  rotate_left
  · simp only [Act.put, List.setIfInBounds_toArray, List.set_cons_zero, List.set_cons_succ]
    rfl
  refine take_ (i := 3) (N := some 26) (v := ?_) (a' := ?_) #[true, true, true, true, false, false, false, false, false, false, false, false, false, false, false, false, false, false, false, false, false, false] rfl rfl (by kernel_rfl) (fun _ _ _ h => h) (Or.inl ⟨by rfl, ?_⟩) hHeld ?_ ?_
  rotate_left
  · rintro w' ⟨s0, s1, s2, s3⟩
    go_simp
    with_reducible rfl
  rotate_left
  · simp only [Act.put, List.setIfInBounds_toArray, List.set_cons_zero, List.set_cons_succ]
    rfl
  refine pure_ (i := 4) (N := some 27) (v := ?_) (a' := ?_) #[true, true, true, true, true, false, false, false, false, false, false, false, false, false, false, false, false, false, false, false, false, false] rfl rfl (by kernel_rfl) (fun _ _ _ h => h) (Or.inl ⟨by rfl, ?_⟩) ?_ ?_
  rotate_left
  · intro w'
    go_simp
    with_reducible rfl
  rotate_left
  · simp only [Act.put, List.setIfInBounds_toArray, List.set_cons_zero, List.set_cons_succ]
    rfl
  refine pure_ (i := 5) (N := some 28) (v := ?_) (a' := ?_) #[true, true, true, true, true, true, false, false, false, false, false, false, false, false, false, false, false, false, false, false, false, false] rfl rfl (by kernel_rfl) (fun _ _ _ h => h) (Or.inl ⟨by rfl, ?_⟩) ?_ ?_
  rotate_left
  · intro w'
    go_simp
    with_reducible rfl
  rotate_left
  · simp only [Act.put, List.setIfInBounds_toArray, List.set_cons_zero, List.set_cons_succ]
    rfl
  refine pure_ (i := 6) (N := some 29) (v := ?_) (a' := ?_) #[true, true, true, true, true, true, true, false, false, false, false, false, false, false, false, false, false, false, false, false, false, false] rfl rfl (by kernel_rfl) (fun _ _ _ h => h) (Or.inl ⟨by rfl, ?_⟩) ?_ ?_
  rotate_left
  · intro w'
    go_simp
    with_reducible rfl
  rotate_left
  · simp only [Act.put, List.setIfInBounds_toArray, List.set_cons_zero, List.set_cons_succ]
    rfl
  refine pure_ (i := 7) (N := some 30) (v := ?_) (a' := ?_) #[true, true, true, true, true, true, true, true, false, false, false, false, false, false, false, false, false, false, false, false, false, false] rfl rfl (by kernel_rfl) (fun _ _ _ h => h) (Or.inl ⟨by rfl, ?_⟩) ?_ ?_
  rotate_left
  · intro w'
    go_simp
    with_reducible rfl
  rotate_left
  · simp only [Act.put, List.setIfInBounds_toArray, List.set_cons_zero, List.set_cons_succ]
    rfl
  refine take_ (i := 8) (N := some 31) (v := ?_) (a' := ?_) #[true, true, true, true, true, true, true, true, true, false, false, false, false, false, false, false, false, false, false, false, false, false] rfl rfl (by kernel_rfl) (fun _ _ _ h => h) (Or.inl ⟨by rfl, ?_⟩) hHeld ?_ ?_
  rotate_left
  · rintro w' ⟨s0, s1, s2, s3⟩
    go_simp
    with_reducible rfl
  rotate_left
  · simp only [Act.put, List.setIfInBounds_toArray, List.set_cons_zero, List.set_cons_succ]
    rfl
  refine pure_ (i := 9) (N := some 32) (v := ?_) (a' := ?_) #[true, true, true, true, true, true, true, true, true, true, false, false, false, false, false, false, false, false, false, false, false, false] rfl rfl (by kernel_rfl) (fun _ _ _ h => h) (Or.inl ⟨by rfl, ?_⟩) ?_ ?_
  rotate_left
  · intro w'
    go_simp
    with_reducible rfl
  rotate_left
  · simp only [Act.put, List.setIfInBounds_toArray, List.set_cons_zero, List.set_cons_succ]
    rfl
  refine pure_ (i := 10) (N := some 33) (v := ?_) (a' := ?_) #[true, true, true, true, true, true, true, true, true, true, true, false, false, false, false, false, false, false, false, false, false, false] rfl rfl (by kernel_rfl) (fun _ _ _ h => h) (Or.inl ⟨by rfl, ?_⟩) ?_ ?_
  rotate_left
  · intro w'
    go_simp
    with_reducible rfl
  rotate_left
  · simp only [Act.put, List.setIfInBounds_toArray, List.set_cons_zero, List.set_cons_succ]
    rfl
  refine pure_ (i := 11) (N := some 34) (v := ?_) (a' := ?_) #[true, true, true, true, true, true, true, true, true, true, true, true, false, false, false, false, false, false, false, false, false, false] rfl rfl (by kernel_rfl) (fun _ _ _ h => h) (Or.inl ⟨by rfl, ?_⟩) ?_ ?_
  rotate_left
  · intro w'
    go_simp
    with_reducible rfl
  rotate_left
  · simp only [Act.put, List.setIfInBounds_toArray, List.set_cons_zero, List.set_cons_succ]
    rfl
  refine take_ (i := 12) (N := some 35) (v := ?_) (a' := ?_) #[true, true, true, true, true, true, true, true, true, true, true, true, true, false, false, false, false, false, false, false, false, false] rfl rfl (by kernel_rfl) (fun _ _ _ h => h) (Or.inl ⟨by rfl, ?_⟩) hHeld ?_ ?_
  rotate_left
  · rintro w' ⟨s0, s1, s2, s3⟩
    go_simp
    with_reducible rfl
  rotate_left
  · simp only [Act.put, List.setIfInBounds_toArray, List.set_cons_zero, List.set_cons_succ]
    rfl
  refine pure_ (i := 13) (N := some 36) (v := ?_) (a' := ?_) #[true, true, true, true, true, true, true, true, true, true, true, true, true, true, false, false, false, false, false, false, false, false] rfl rfl (by kernel_rfl) (fun _ _ _ h => h) (Or.inl ⟨by rfl, ?_⟩) ?_ ?_
  rotate_left
  · intro w'
    go_simp
    with_reducible rfl
  rotate_left
  · simp only [Act.put, List.setIfInBounds_toArray, List.set_cons_zero, List.set_cons_succ]
    rfl
  refine pure_ (i := 14) (N := some 37) (v := ?_) (a' := ?_) #[true, true, true, true, true, true, true, true, true, true, true, true, true, true, true, false, false, false, false, false, false, false] rfl rfl (by kernel_rfl) (fun _ _ _ h => h) (Or.inl ⟨by rfl, ?_⟩) ?_ ?_
  rotate_left
  · intro w'
    go_simp
    with_reducible rfl
  rotate_left
  · simp only [Act.put, List.setIfInBounds_toArray, List.set_cons_zero, List.set_cons_succ]
    rfl
  refine pure_ (i := 15) (N := some 38) (v := ?_) (a' := ?_) #[true, true, true, true, true, true, true, true, true, true, true, true, true, true, true, true, false, false, false, false, false, false] rfl rfl (by kernel_rfl) (fun _ _ _ h => h) (Or.inl ⟨by rfl, ?_⟩) ?_ ?_
  rotate_left
  · intro w'
    go_simp
    with_reducible rfl
  rotate_left
  · simp only [Act.put, List.setIfInBounds_toArray, List.set_cons_zero, List.set_cons_succ]
    rfl
  refine take_ (i := 16) (N := some 39) (v := ?_) (a' := ?_) #[true, true, true, true, true, true, true, true, true, true, true, true, true, true, true, true, true, false, false, false, false, false] rfl rfl (by kernel_rfl) (fun _ _ _ h => h) (Or.inl ⟨by rfl, ?_⟩) hHeld ?_ ?_
  rotate_left
  · rintro w' ⟨s0, s1, s2, s3⟩
    go_simp
    with_reducible rfl
  rotate_left
  · simp only [Act.put, List.setIfInBounds_toArray, List.set_cons_zero, List.set_cons_succ]
    rfl
  refine one_ (i := 17) (N := some 40) #[true, true, true, true, true, true, true, true, true, true, true, true, true, true, true, true, true, true, false, false, false, false] rfl rfl (by kernel_rfl) (by decide) (fun K hK => ?_)
  refine call_ 46 #[.int .i64 b.tr, .agg #[.int .i64 2, .int .i64 us], .int .i64 3] (by rfl) rfl (by go_simp) ?_
  refine hst.out.mono ?_
  rintro e w4 ⟨rfl, hb4⟩
  refine ⟨_, rfl, ?_⟩
  have hS4 := kp.out w4 hb4
  refine hK.out _ _ hS4 (fun hHeld => ?_)
  clear hK K hHeld
  have hHeld := hS4
  clear hS4
  refine norm_ (a' := ?_) ?_ ?_
  rotate_left
  · show Act.put _ (some 40) _ = _
    simp only [Act.put, List.setIfInBounds_toArray, List.set_cons_zero, List.set_cons_succ]
    rfl
  refine pure_ (i := 18) (N := some 41) (v := ?_) (a' := ?_) #[true, true, true, true, true, true, true, true, true, true, true, true, true, true, true, true, true, true, true, false, false, false] rfl rfl (by kernel_rfl) (fun _ _ _ h => h) (Or.inl ⟨by rfl, ?_⟩) ?_ ?_
  rotate_left
  · intro w'
    go_simp
    with_reducible rfl
  rotate_left
  · simp only [Act.put, List.setIfInBounds_toArray, List.set_cons_zero, List.set_cons_succ]
    rfl
  refine pure_ (i := 19) (N := some 42) (v := ?_) (a' := ?_) #[true, true, true, true, true, true, true, true, true, true, true, true, true, true, true, true, true, true, true, true, false, false] rfl rfl (by kernel_rfl) (fun _ _ _ h => h) (Or.inl ⟨by rfl, ?_⟩) ?_ ?_
  rotate_left
  · intro w'
    go_simp
    with_reducible rfl
  rotate_left
  · simp only [Act.put, List.setIfInBounds_toArray, List.set_cons_zero, List.set_cons_succ]
    rfl
  refine pure_ (i := 20) (N := some 43) (v := ?_) (a' := ?_) #[true, true, true, true, true, true, true, true, true, true, true, true, true, true, true, true, true, true, true, true, true, false] rfl rfl (by kernel_rfl) (fun _ _ _ h => h) (Or.inl ⟨by rfl, ?_⟩) ?_ ?_
  rotate_left
  · intro w'
    go_simp
    with_reducible rfl
  rotate_left
  · simp only [Act.put, List.setIfInBounds_toArray, List.set_cons_zero, List.set_cons_succ]
    rfl
  have H4 := Aside0.mk (HM2.out.step hb4)
  have hb4 := Aside0.mk (below_step hB2.out hb4)
  have f2 := (H4.out.elemAt k hk).2.2.1 (k * 4 + 2)
  have f3 := (H4.out.elemAt k hk).2.2.1 (k * 4 + 3)
  have s2 := hHeld.2.2.1
  have s3 := hHeld.2.2.2
  clear hHeld HM2 hst hfd
  refine last_ (i := 21) (N := none) #[true, true, true, true, true, true, true, true, true, true, true, true, true, true, true, true, true, true, true, true, true, true] rfl rfl (by kernel_rfl) (by decide) (fun K hK => ?_)
  refine skip_ (w1 := ?_) (by rfl) rfl ?_ ?_
  rotate_left
  · go_simp
    rfl
  refine hK.out _ _ ?_
  clear hK K
  refine done_ (by kernel_rfl) ?_
  obtain ⟨H6, hF6⟩ := H4.out.setJ HA.out k hk 5 us
  have H6 := Aside0.mk H6
  have hM6 := Aside0.mk (((Mv.refl W0 (own3 R vq vl' (.slice (some ⟨gb, 0, none⟩) n cap))).below hb4.out).trans (Mv.set hF6))
  clear s2 s3 f2 f3 kp H4 hb4 hF6
  generalize (w4.setCell ⟨gb, k * 4 + 2, none⟩ (.int .i64 5)).setCell ⟨gb, k * 4 + 3, none⟩ (.int .i64 us) = w6 at H6 hM6 ⊢
  have e2 : w6.cell? ⟨gb, k * 4 + 2, none⟩ = some (.int .i64 5) := by
    have h1 := (H6.out.elemAt k (by rw [List.length_set]; exact hk)).2.2.2.2.1
    rw [List.getElem_set_self] at h1
    exact h1
  have c7 : w6.cell? ⟨R, 7, none⟩ = some (.slice (some ⟨gb, 0, none⟩) n cap) := (blk_cell H6.out.blk 7).trans rfl
  have H7 := H6.out
  have hm7 := hm0.out.trans hM6.out
  have hy7 := (hM6.out.fr.blk w1.heap.size (blk_lt HY.out.1) (fun e => by have := HY.out.2 _ e; omega)).trans HY.out.1
  have y1 := (blk_cell hy7 1).trans rfl
  rw [HN.out.2.1] at H7
  have hgo := gone12 H7 g.j (by rw [setJ_len]; exact HN.out.2.2.1)
  rw [rm_setJ] at hgo
  have hlt7 : ∀ k, own3 R vq vl' (.slice (some ⟨gb, 0, none⟩) n cap) k → ¬ k = w1.heap.size := fun k hk e => by have := HY.out.2 k hk; omega
  have H7 := Aside0.mk (And.intro H7 (And.intro hm7 (And.intro hy7 hlt7)))
  clear hm7 hy7 hlt7 H6 hM6
  go_upto_region 9 with (go_at_call 50; refine hgo.mono ?_; clear hgo; rintro e w8 ⟨rfl, hz8⟩)
  obtain ⟨h7, hm7, hy7, hlt7⟩ := H7.out
  obtain ⟨vj', h9, ha9, hm9⟩ := h7.goJ HA.out hz8.out
  have hy9 := (hm9.fr.blk w1.heap.size (blk_lt hy7) (fun e => hlt7 _ e rfl)).trans hy7
  have y1 := (blk_cell hy9 1).trans rfl
  have hE := Aside0.mk (⟨_, ⟨⟨vq, vl', vj', LQ, h9, by rw [show (goneB b g.j).L = b.L from drop_no HN.out.1]; exact HP.out, ha9, rfl⟩⟩, hm7.trans hm9⟩ : RIGo N w R _ w8 (goneB b g.j))
  clear h7 hm7 hy7 hlt7 h9 ha9 hm9 hy9
  go_wp2
  go_ret3
  exact ⟨rfl, hE⟩
set_option maxHeartbeats 8000000 in
set_option maxRecDepth 100000 in
theorem rfail_rest (h : RI N w R X b) (hI : Inv b) (hct : b.ct ≤ 10000) (n0 : Int) (g : Gr) (hg : lk gno b.Ls n0 = some g) (hd : ¬ b.tr < usedOf b g.j) : Calls Try.prog 26 #[ptr R, .int .i64 n0] w fun e w' => e = .returned (.tuple #[.int .i64 g.j, .bool false, .int .i64 0]) ∧ Aside0 (RIGo N w R X w' (restB b g.j (usedOf b g.j))) := by
  obtain ⟨vq, vl, vj, LQ, hR, hp, ha, rfl⟩ := h.ex
  have hll := hI.llen
  have hrm := hI.rm
  have hle := hI.le
  have hct0 := hI.ct
  obtain ⟨j, hj, hji, hjs, hjk, hu1, hu2, hjw⟩ := hI.job (lk_mem hg).1
  have hus : usedOf b g.j = j.us := by unfold usedOf; rw [hjk]; rfl
  have hnw : g.j ∉ ids b.L := by
    rw [← hji]
    exact hI.not_waits hj (by omega)
  have hrme : Lst.rm gno b.Ls n0 = Lst.rm gjo b.Ls g.j := by
    rw [← (lk_mem hg).2]
    exact rm_eq hI.gn hI.gj (lk_mem hg).1
  obtain ⟨k, hk, hpk, hkj⟩ := pos_some hjk
  rw [hus] at hd
  obtain ⟨us, hu⟩ : ∃ us, j.us = us := ⟨_, rfl⟩
  rw [hu] at hd hu1 hu2
  have hst : remontoirref11_Step.f 9 b.tr 2 us 3 = some (3, us, true) := by
    have h1 := rstep_fail hI.tr ⟨hu1, hu2⟩
    rw [if_neg hd] at h1
    exact h1
  have hset : b.Js.set k ⟨b.Js[k].id, b.Js[k].cls, 3, us⟩ = Bk.setJ b.Js g.j 3 us := set_setJ hI.nd hk g.j (by rw [hkj]; exact hji) 3 us
  have hdr := rtdrop hR n0 (by omega) g (by rw [hg]; rfl) true (by rw [hg]; rfl)
  rw [hrme] at hdr
  have hdr := Aside0.mk hdr
  have hlj : b.Js.length ≤ 100000 := by omega
  have hkn : (k : Int) < (b.Js.length : Int) := by omega
  have hk0 : (0 : Int) ≤ (k : Int) := by omega
  have hjl2 : (b.Js.length : Int) ≤ 1000000 := by omega
  have hks : b.Js[k].st = 2 := by rw [hkj]; exact hjs
  have hku : b.Js[k].us = us := by rw [hkj]; exact hu
  have HKS := Aside0.mk (And.intro hks hku)
  obtain ⟨gb, cap, e, _⟩ := hR.elem k hk
  subst e
  have H := Aside0.mk (And.intro hR (And.intro hp ha))
  have HN := Aside0.mk (And.intro hnw (And.intro hset (And.intro hlj (And.intro hpk (hus.trans hu)))))
  have HS := Aside0.mk hst
  have HP := Aside0.mk hp
  clear h hI hR hp ha hll hrm hle hct0 hct hrme hnw hj hji hjs hjk hu1 hu2 hjw hus hg hlj hpk hkj hu hst hset hd hks hku
  go_enter Try.func26, Try.ntmps26
  go_upto_region 4 with (go_at_call 49; refine hdr.out.mono ?_; rintro e w1 ⟨rfl, hz⟩)
  obtain ⟨vl', h1, ha1, hm1⟩ := H.out.1.goL H.out.2.2 hz.out
  generalize hw2 : w1.alloc (.cells #[.int .i64 g.n, .int .i64 g.j, .int .u64 g.u, .bool true] 104) = w2
  have hb2 : Below w1.heap.size w1 w2 := by rw [← hw2]; exact below_alloc (Below.refl _ _) _
  have hy2 : w2.heap[w1.heap.size]? = some (.cells #[.int .i64 g.n, .int .i64 g.j, .int .u64 g.u, .bool true] 104 (0, 0)) := by rw [← hw2]; exact blk_new _ _
  have h2 := h1.step hb2
  have hm2 := hm1.below hb2
  have y1 := (blk_cell hy2 1).trans rfl
  have hlt1 : ∀ k, own3 R vq vl' _ k → k < w1.heap.size := fun k hk => (h1.lt3 k hk).2
  have hfi := rfind12 h2 g.j (by have := HN.out.2.2.1; omega) k HN.out.2.2.2.1
  have H2 := Aside0.mk (And.intro h2 (And.intro ha1 (And.intro hm2 (And.intro hy2 hlt1))))
  clear hw2 h1 ha1 hm1 hb2 hy2 h2 hm2 hlt1 H hdr
  go_upto_region 5 with (go_at_call 30; refine hfi.mono ?_; clear hfi; rintro e W0 ⟨rfl, hb0⟩)
  obtain ⟨h2, ha1, hm2, hy2, hlt1⟩ := H2.out
  have HM := Aside0.mk (h2.step hb0)
  have HA := Aside0.mk ha1
  have hm0 := Aside0.mk (hm2.below hb0)
  have HY : Aside0 (W0.heap[w1.heap.size]? = some (.cells #[.int .i64 g.n, .int .i64 g.j, .int .u64 g.u, .bool true] 104 (0, 0)) ∧ ∀ k, own3 R vq vl' (.slice (some ⟨gb, 0, none⟩) b.Js.length cap) k → k < w1.heap.size) := ⟨blk_below hy2 hb0, hlt1⟩
  clear h2 ha1 hm2 hy2 hlt1 hb0 y1 H2
  generalize hn : b.Js.length = n at hkn hjl2 HM HA hm0 HY
  have c7 : W0.cell? ⟨R, 7, none⟩ = some (.slice (some ⟨gb, 0, none⟩) n cap) := (blk_cell HM.out.blk 7).trans rfl
  have c6 : W0.cell? ⟨R, 6, none⟩ = some (.int .i64 b.tr) := (blk_cell HM.out.blk 6).trans rfl
  obtain ⟨hgR, hgl, _, _, e2, e3⟩ := HM.out.elemAt k hk
  rw [HKS.out.1] at e2
  rw [HKS.out.2] at e3
  refine start_ (n := 22) (S := fun w' => w'.cell? ⟨R, 7, none⟩ = some (.slice (some ⟨gb, 0, none⟩) n cap) ∧ w'.cell? ⟨R, 6, none⟩ = some (.int .i64 b.tr) ∧ w'.cell? ⟨gb, k * 4 + 2, none⟩ = some (.int .i64 2) ∧ w'.cell? ⟨gb, k * 4 + 3, none⟩ = some (.int .i64 us)) (ds := [21]) #[false, false, false, false, false, false, false, false, false, false, false, false, false, false, false, false, false, false, false, false, false, false] (by kernel_rfl) rfl rfl ⟨c7, c6, e2, e3⟩ (fun hHeld => ?_)
  have hb2 := below_drew1 (Below.refl W0.heap.size W0)
  have HM2 := Aside0.mk (HM.out.step hb2)
  have hB2 := Aside0.mk hb2
  generalize W0.drew = W2 at hHeld HM2 hB2 ⊢
  clear c7 c6 e2 e3 hb2 HM hgR hgl
  have kp : Aside0 (∀ w', Below W2.heap.size W2 w' → w'.cell? ⟨R, 7, none⟩ = some (.slice (some ⟨gb, 0, none⟩) n cap) ∧ w'.cell? ⟨R, 6, none⟩ = some (.int .i64 b.tr) ∧ w'.cell? ⟨gb, k * 4 + 2, none⟩ = some (.int .i64 2) ∧ w'.cell? ⟨gb, k * 4 + 3, none⟩ = some (.int .i64 us)) := ⟨fun w' hb => ⟨(hb.cell (p := ⟨R, 7, none⟩) (blk_lt HM2.out.blk)).trans hHeld.1, (hb.cell (p := ⟨R, 6, none⟩) (blk_lt HM2.out.blk)).trans hHeld.2.1, (hb.cell (p := ⟨gb, k * 4 + 2, none⟩) (HM2.out.elemAt k hk).2.1).trans hHeld.2.2.1, (hb.cell (p := ⟨gb, k * 4 + 3, none⟩) (HM2.out.elemAt k hk).2.1).trans hHeld.2.2.2⟩⟩
  have hst := Aside0.mk (rstep_run HS.out W2)
  have hfd := fld100 3 us
  refine pure_ (i := 0) (N := some 23) (v := ?_) (a' := ?_) #[true, false, false, false, false, false, false, false, false, false, false, false, false, false, false, false, false, false, false, false, false, false] rfl rfl (by kernel_rfl) (fun _ _ _ h => h) (Or.inl ⟨by rfl, ?_⟩) ?_ ?_
  rotate_left
  · intro w'
    go_simp
    with_reducible rfl
  rotate_left
  · simp only [Act.put, List.setIfInBounds_toArray, List.set_cons_zero, List.set_cons_succ]
    rfl
  refine pure_ (i := 1) (N := some 24) (v := ?_) (a' := ?_) #[true, true, false, false, false, false, false, false, false, false, false, false, false, false, false, false, false, false, false, false, false, false] rfl rfl (by kernel_rfl) (fun _ _ _ h => h) (Or.inl ⟨by rfl, ?_⟩) ?_ ?_
  rotate_left
  · intro w'
    go_simp
    with_reducible rfl
  rotate_left
  · simp only [Act.put, List.setIfInBounds_toArray, List.set_cons_zero, List.set_cons_succ]
    rfl
  refine pure_ (i := 2) (N := some 25) (v := ?_) (a' := ?_) #[true, true, true, false, false, false, false, false, false, false, false, false, false, false, false, false, false, false, false, false, false, false] rfl rfl (by kernel_rfl) (fun _ _ _ h => h) (Or.inl ⟨by rfl, ?_⟩) ?_ ?_
  rotate_left
  · intro w'
    go_simp
    with_reducible rfl
  rotate_left
  · simp only [Act.put, List.setIfInBounds_toArray, List.set_cons_zero, List.set_cons_succ]
    rfl
  refine take_ (i := 3) (N := some 26) (v := ?_) (a' := ?_) #[true, true, true, true, false, false, false, false, false, false, false, false, false, false, false, false, false, false, false, false, false, false] rfl rfl (by kernel_rfl) (fun _ _ _ h => h) (Or.inl ⟨by rfl, ?_⟩) hHeld ?_ ?_
  rotate_left
  · rintro w' ⟨s0, s1, s2, s3⟩
    go_simp
    with_reducible rfl
  rotate_left
  · simp only [Act.put, List.setIfInBounds_toArray, List.set_cons_zero, List.set_cons_succ]
    rfl
  refine pure_ (i := 4) (N := some 27) (v := ?_) (a' := ?_) #[true, true, true, true, true, false, false, false, false, false, false, false, false, false, false, false, false, false, false, false, false, false] rfl rfl (by kernel_rfl) (fun _ _ _ h => h) (Or.inl ⟨by rfl, ?_⟩) ?_ ?_
  rotate_left
  · intro w'
    go_simp
    with_reducible rfl
  rotate_left
  · simp only [Act.put, List.setIfInBounds_toArray, List.set_cons_zero, List.set_cons_succ]
    rfl
  refine pure_ (i := 5) (N := some 28) (v := ?_) (a' := ?_) #[true, true, true, true, true, true, false, false, false, false, false, false, false, false, false, false, false, false, false, false, false, false] rfl rfl (by kernel_rfl) (fun _ _ _ h => h) (Or.inl ⟨by rfl, ?_⟩) ?_ ?_
  rotate_left
  · intro w'
    go_simp
    with_reducible rfl
  rotate_left
  · simp only [Act.put, List.setIfInBounds_toArray, List.set_cons_zero, List.set_cons_succ]
    rfl
  refine pure_ (i := 6) (N := some 29) (v := ?_) (a' := ?_) #[true, true, true, true, true, true, true, false, false, false, false, false, false, false, false, false, false, false, false, false, false, false] rfl rfl (by kernel_rfl) (fun _ _ _ h => h) (Or.inl ⟨by rfl, ?_⟩) ?_ ?_
  rotate_left
  · intro w'
    go_simp
    with_reducible rfl
  rotate_left
  · simp only [Act.put, List.setIfInBounds_toArray, List.set_cons_zero, List.set_cons_succ]
    rfl
  refine pure_ (i := 7) (N := some 30) (v := ?_) (a' := ?_) #[true, true, true, true, true, true, true, true, false, false, false, false, false, false, false, false, false, false, false, false, false, false] rfl rfl (by kernel_rfl) (fun _ _ _ h => h) (Or.inl ⟨by rfl, ?_⟩) ?_ ?_
  rotate_left
  · intro w'
    go_simp
    with_reducible rfl
  rotate_left
  · simp only [Act.put, List.setIfInBounds_toArray, List.set_cons_zero, List.set_cons_succ]
    rfl
  refine take_ (i := 8) (N := some 31) (v := ?_) (a' := ?_) #[true, true, true, true, true, true, true, true, true, false, false, false, false, false, false, false, false, false, false, false, false, false] rfl rfl (by kernel_rfl) (fun _ _ _ h => h) (Or.inl ⟨by rfl, ?_⟩) hHeld ?_ ?_
  rotate_left
  · rintro w' ⟨s0, s1, s2, s3⟩
    go_simp
    with_reducible rfl
  rotate_left
  · simp only [Act.put, List.setIfInBounds_toArray, List.set_cons_zero, List.set_cons_succ]
    rfl
  refine pure_ (i := 9) (N := some 32) (v := ?_) (a' := ?_) #[true, true, true, true, true, true, true, true, true, true, false, false, false, false, false, false, false, false, false, false, false, false] rfl rfl (by kernel_rfl) (fun _ _ _ h => h) (Or.inl ⟨by rfl, ?_⟩) ?_ ?_
  rotate_left
  · intro w'
    go_simp
    with_reducible rfl
  rotate_left
  · simp only [Act.put, List.setIfInBounds_toArray, List.set_cons_zero, List.set_cons_succ]
    rfl
  refine pure_ (i := 10) (N := some 33) (v := ?_) (a' := ?_) #[true, true, true, true, true, true, true, true, true, true, true, false, false, false, false, false, false, false, false, false, false, false] rfl rfl (by kernel_rfl) (fun _ _ _ h => h) (Or.inl ⟨by rfl, ?_⟩) ?_ ?_
  rotate_left
  · intro w'
    go_simp
    with_reducible rfl
  rotate_left
  · simp only [Act.put, List.setIfInBounds_toArray, List.set_cons_zero, List.set_cons_succ]
    rfl
  refine pure_ (i := 11) (N := some 34) (v := ?_) (a' := ?_) #[true, true, true, true, true, true, true, true, true, true, true, true, false, false, false, false, false, false, false, false, false, false] rfl rfl (by kernel_rfl) (fun _ _ _ h => h) (Or.inl ⟨by rfl, ?_⟩) ?_ ?_
  rotate_left
  · intro w'
    go_simp
    with_reducible rfl
  rotate_left
  · simp only [Act.put, List.setIfInBounds_toArray, List.set_cons_zero, List.set_cons_succ]
    rfl
  refine take_ (i := 12) (N := some 35) (v := ?_) (a' := ?_) #[true, true, true, true, true, true, true, true, true, true, true, true, true, false, false, false, false, false, false, false, false, false] rfl rfl (by kernel_rfl) (fun _ _ _ h => h) (Or.inl ⟨by rfl, ?_⟩) hHeld ?_ ?_
  rotate_left
  · rintro w' ⟨s0, s1, s2, s3⟩
    go_simp
    with_reducible rfl
  rotate_left
  · simp only [Act.put, List.setIfInBounds_toArray, List.set_cons_zero, List.set_cons_succ]
    rfl
  refine pure_ (i := 13) (N := some 36) (v := ?_) (a' := ?_) #[true, true, true, true, true, true, true, true, true, true, true, true, true, true, false, false, false, false, false, false, false, false] rfl rfl (by kernel_rfl) (fun _ _ _ h => h) (Or.inl ⟨by rfl, ?_⟩) ?_ ?_
  rotate_left
  · intro w'
    go_simp
    with_reducible rfl
  rotate_left
  · simp only [Act.put, List.setIfInBounds_toArray, List.set_cons_zero, List.set_cons_succ]
    rfl
  refine pure_ (i := 14) (N := some 37) (v := ?_) (a' := ?_) #[true, true, true, true, true, true, true, true, true, true, true, true, true, true, true, false, false, false, false, false, false, false] rfl rfl (by kernel_rfl) (fun _ _ _ h => h) (Or.inl ⟨by rfl, ?_⟩) ?_ ?_
  rotate_left
  · intro w'
    go_simp
    with_reducible rfl
  rotate_left
  · simp only [Act.put, List.setIfInBounds_toArray, List.set_cons_zero, List.set_cons_succ]
    rfl
  refine pure_ (i := 15) (N := some 38) (v := ?_) (a' := ?_) #[true, true, true, true, true, true, true, true, true, true, true, true, true, true, true, true, false, false, false, false, false, false] rfl rfl (by kernel_rfl) (fun _ _ _ h => h) (Or.inl ⟨by rfl, ?_⟩) ?_ ?_
  rotate_left
  · intro w'
    go_simp
    with_reducible rfl
  rotate_left
  · simp only [Act.put, List.setIfInBounds_toArray, List.set_cons_zero, List.set_cons_succ]
    rfl
  refine take_ (i := 16) (N := some 39) (v := ?_) (a' := ?_) #[true, true, true, true, true, true, true, true, true, true, true, true, true, true, true, true, true, false, false, false, false, false] rfl rfl (by kernel_rfl) (fun _ _ _ h => h) (Or.inl ⟨by rfl, ?_⟩) hHeld ?_ ?_
  rotate_left
  · rintro w' ⟨s0, s1, s2, s3⟩
    go_simp
    with_reducible rfl
  rotate_left
  · simp only [Act.put, List.setIfInBounds_toArray, List.set_cons_zero, List.set_cons_succ]
    rfl
  refine one_ (i := 17) (N := some 40) #[true, true, true, true, true, true, true, true, true, true, true, true, true, true, true, true, true, true, false, false, false, false] rfl rfl (by kernel_rfl) (by decide) (fun K hK => ?_)
  refine call_ 46 #[.int .i64 b.tr, .agg #[.int .i64 2, .int .i64 us], .int .i64 3] (by rfl) rfl (by go_simp) ?_
  refine hst.out.mono ?_
  rintro e w4 ⟨rfl, hb4⟩
  refine ⟨_, rfl, ?_⟩
  have hS4 := kp.out w4 hb4
  refine hK.out _ _ hS4 (fun hHeld => ?_)
  clear hK K hHeld
  have hHeld := hS4
  clear hS4
  refine norm_ (a' := ?_) ?_ ?_
  rotate_left
  · show Act.put _ (some 40) _ = _
    simp only [Act.put, List.setIfInBounds_toArray, List.set_cons_zero, List.set_cons_succ]
    rfl
  refine pure_ (i := 18) (N := some 41) (v := ?_) (a' := ?_) #[true, true, true, true, true, true, true, true, true, true, true, true, true, true, true, true, true, true, true, false, false, false] rfl rfl (by kernel_rfl) (fun _ _ _ h => h) (Or.inl ⟨by rfl, ?_⟩) ?_ ?_
  rotate_left
  · intro w'
    go_simp
    with_reducible rfl
  rotate_left
  · simp only [Act.put, List.setIfInBounds_toArray, List.set_cons_zero, List.set_cons_succ]
    rfl
  refine pure_ (i := 19) (N := some 42) (v := ?_) (a' := ?_) #[true, true, true, true, true, true, true, true, true, true, true, true, true, true, true, true, true, true, true, true, false, false] rfl rfl (by kernel_rfl) (fun _ _ _ h => h) (Or.inl ⟨by rfl, ?_⟩) ?_ ?_
  rotate_left
  · intro w'
    go_simp
    with_reducible rfl
  rotate_left
  · simp only [Act.put, List.setIfInBounds_toArray, List.set_cons_zero, List.set_cons_succ]
    rfl
  refine pure_ (i := 20) (N := some 43) (v := ?_) (a' := ?_) #[true, true, true, true, true, true, true, true, true, true, true, true, true, true, true, true, true, true, true, true, true, false] rfl rfl (by kernel_rfl) (fun _ _ _ h => h) (Or.inl ⟨by rfl, ?_⟩) ?_ ?_
  rotate_left
  · intro w'
    go_simp
    with_reducible rfl
  rotate_left
  · simp only [Act.put, List.setIfInBounds_toArray, List.set_cons_zero, List.set_cons_succ]
    rfl
  have H4 := Aside0.mk (HM2.out.step hb4)
  have hb4 := Aside0.mk (below_step hB2.out hb4)
  have f2 := (H4.out.elemAt k hk).2.2.1 (k * 4 + 2)
  have f3 := (H4.out.elemAt k hk).2.2.1 (k * 4 + 3)
  have s2 := hHeld.2.2.1
  have s3 := hHeld.2.2.2
  clear hHeld HM2 hst hfd
  refine last_ (i := 21) (N := none) #[true, true, true, true, true, true, true, true, true, true, true, true, true, true, true, true, true, true, true, true, true, true] rfl rfl (by kernel_rfl) (by decide) (fun K hK => ?_)
  refine skip_ (w1 := ?_) (by rfl) rfl ?_ ?_
  rotate_left
  · go_simp
    rfl
  refine hK.out _ _ ?_
  clear hK K
  refine done_ (by kernel_rfl) ?_
  obtain ⟨H6, hF6⟩ := H4.out.setJ HA.out k hk 3 us
  have H6 := Aside0.mk H6
  have hM6 := Aside0.mk (((Mv.refl W0 (own3 R vq vl' (.slice (some ⟨gb, 0, none⟩) n cap))).below hb4.out).trans (Mv.set hF6))
  clear s2 s3 f2 f3 kp H4 hb4 hF6
  generalize (w4.setCell ⟨gb, k * 4 + 2, none⟩ (.int .i64 3)).setCell ⟨gb, k * 4 + 3, none⟩ (.int .i64 us) = w6 at H6 hM6 ⊢
  have e2 : w6.cell? ⟨gb, k * 4 + 2, none⟩ = some (.int .i64 3) := by
    have h1 := (H6.out.elemAt k (by rw [List.length_set]; exact hk)).2.2.2.2.1
    rw [List.getElem_set_self] at h1
    exact h1
  have c7 : w6.cell? ⟨R, 7, none⟩ = some (.slice (some ⟨gb, 0, none⟩) n cap) := (blk_cell H6.out.blk 7).trans rfl
  have H7 := H6.out
  have hm7 := hm0.out.trans hM6.out
  have hy7 := (hM6.out.fr.blk w1.heap.size (blk_lt HY.out.1) (fun e => by have := HY.out.2 _ e; omega)).trans HY.out.1
  have y1 := (blk_cell hy7 1).trans rfl
  rw [HN.out.2.1] at H7
  have hE := Aside0.mk (⟨_, ⟨⟨vq, vl', _, LQ, by rw [show (restB b g.j (usedOf b g.j)).Js = setJ b.Js g.j 3 us from by show setJ b.Js g.j 3 (usedOf b g.j) = _; rw [HN.out.2.2.2.2]]; exact H7, HP.out, HA.out, rfl⟩⟩, hm7⟩ : RIGo N w R _ w6 (restB b g.j (usedOf b g.j)))
  clear hm7 hy7 H7 H6 hM6
  go_wp2
  go_ret3
  exact ⟨rfl, hE⟩
end
end Go.Proofs.Ytfkebbkfmchnaaa.Bk

set_option linter.unusedVariables false
namespace Go.Proofs.Ytfkebbkfmchnaaa.Bk
open Go.RowKit Go.Proofs.Ytfkebbkfmchnaaa.PBase Go.Proofs.Ytfkebbkfmchnaaa.Heap Go.Proofs.Ytfkebbkfmchnaaa.Ln Go.Proofs.Ytfkebbkfmchnaaa.Lst Go.Proofs.Ytfkebbkfmchnaaa.PStp Go.Proofs.YtfkebbkfmchnaaaW.PrintWords Go.Proofs.YtfkebbkfmchnaaaW.PrintLast Go.Proofs.YtfkebbkfmchnaaaW.PrintMore
section
variable {N : Nat} {w w' : World} {R : Nat} {X : Nat → Prop} {b : Book} {vq vl vj : Value} {ag rm ct last tr : Int} {LQ : List S77} {Ls : List Gr} {Js : List Jb}
/-- A block that is none of the book's stays. -/
theorem box_mv {w w' : World} {X X' : Nat → Prop} {g : Nat} {o : Obj} (h : w.heap[g]? = some o ∧ ¬ X g) (hm : Mv w X w' X') : w'.heap[g]? = some o ∧ ¬ X' g :=
  ⟨(hm.fr.blk g (blk_lt h.1) h.2).trans h.1, fun e => (hm.at_ g e).elim h.2 (fun e => by have := blk_lt h.1; omega)⟩
theorem box_below {w w' : World} {X : Nat → Prop} {g : Nat} {o : Obj} (h : w.heap[g]? = some o ∧ ¬ X g) (hb : Below w.heap.size w w') : w'.heap[g]? = some o ∧ ¬ X g := ⟨blk_below h.1 hb, h.2⟩
/-! ### Rested -/
set_option maxHeartbeats 8000000 in
set_option maxRecDepth 100000 in
theorem rrested_none (h : RI N w R X b) (hI : Inv b) (id : Int) (hn : lk jid b.Js id = none) : Calls Try.prog 27 #[ptr R, .int .i64 id] w fun e w' => e = .returned (.bool false) ∧ Below w.heap.size w w' := by
  obtain ⟨vq, vl, vj, LQ, hR, hp, ha, rfl⟩ := h.ex
  have hrm := hI.rm
  have hle := hI.le
  have hfi := rfind12 hR id (by omega) (-1) (pos_none hn)
  clear h hR hp ha hI hn hrm hle
  go_enter Try.func27, Try.ntmps27
  go_wp2_with (go_at_call 30; refine hfi.mono ?_; clear hfi; rintro e w1 ⟨rfl, hb1⟩)
  go_ret
  exact ⟨rfl, hb1⟩
set_option maxHeartbeats 8000000 in
set_option maxRecDepth 100000 in
theorem rrested_not (h : RI N w R X b) (hI : Inv b) (id : Int) (j : Jb) (hj : lk jid b.Js id = some j) (hs : j.st ≠ 3) : Calls Try.prog 27 #[ptr R, .int .i64 id] w fun e w' => e = .returned (.bool false) ∧ Below w.heap.size w w' := by
  obtain ⟨vq, vl, vj, LQ, hR, hp, ha, rfl⟩ := h.ex
  have hrm := hI.rm
  have hle := hI.le
  obtain ⟨k, hk, hpk, hkj⟩ := pos_some hj
  have hfi := rfind12 hR id (by omega) k hpk
  obtain ⟨gb, cap, e, _⟩ := hR.elem k hk
  subst e
  have HKS := Aside0.mk (show b.Js[k].st = j.st by rw [hkj])
  have HM := Aside0.mk hR
  have hkn : (k : Int) < (b.Js.length : Int) := by omega
  have hk0 : (0 : Int) ≤ (k : Int) := by omega
  have hjl2 : (b.Js.length : Int) ≤ 1000000 := by omega
  clear h hR hp ha hI hj hrm hle hpk hkj
  generalize j.st = st at HKS hs
  go_enter Try.func27, Try.ntmps27
  go_upto_region 2 with (go_at_call 30; refine hfi.mono ?_; clear hfi; rintro e w1 ⟨rfl, hb1⟩)
  have H1 := HM.out.step hb1
  obtain ⟨_, _, _, _, e2, _⟩ := H1.elemAt k hk
  rw [HKS.out] at e2
  have c7 : w1.cell? ⟨R, 7, none⟩ = some (.slice (some ⟨gb, 0, none⟩) b.Js.length cap) := (blk_cell H1.blk 7).trans rfl
  have hsb : (st != 3) = true := by simpa using hs
  clear H1
  go_wp2
  go_ret
  exact ⟨rfl, hb1⟩
set_option maxHeartbeats 8000000 in
set_option maxRecDepth 100000 in
theorem rrested_yes (h : RI N w R X b) (hI : Inv b) (j : Jb) (hj : j ∈ b.Js) (hs : j.st = 3) : Calls Try.prog 27 #[ptr R, .int .i64 j.id] w fun e w' => e = .returned (.bool true) ∧ Aside0 (RIGo N w R X w' (wakeB b j)) := by
  obtain ⟨vq, vl, vj, LQ, hR, hp, ha, rfl⟩ := h.ex
  have hrm := hI.rm
  have hle := hI.le
  have hok := (hI.ok j hj).2
  obtain ⟨q1, q2⟩ := hI.wake_put hj hs
  have hjk : lk jid b.Js j.id = some j := lk_get hI.nd hj
  obtain ⟨k, hk, hpk, hkj⟩ := pos_some hjk
  have hfi := rfind12 hR j.id (by omega) k hpk
  obtain ⟨gb, cap, e, _⟩ := hR.elem k hk
  subst e
  obtain ⟨us, hu⟩ : ∃ us, j.us = us := ⟨_, rfl⟩
  have hst : remontoirref11_Step.f 9 b.tr 3 us 4 = some (1, us, true) := rstep_rest hI.tr (by omega)
  have hset : b.Js.set k ⟨b.Js[k].id, b.Js[k].cls, 1, us⟩ = Bk.setJ b.Js j.id 1 us := set_setJ hI.nd hk j.id (by rw [hkj]) 1 us
  have HKS := Aside0.mk (show b.Js[k].st = 3 ∧ b.Js[k].us = us by rw [hkj]; exact ⟨hs, hu⟩)
  have HC := Aside0.mk (show b.Js[k].cls = j.cls by rw [hkj])
  have HM := Aside0.mk hR
  have HA := Aside0.mk ha
  have HP := Aside0.mk (And.intro hp (And.intro hI.st (And.intro (show b.L.length ≤ 1000 by have := hI.len; omega) (And.intro q1 q2))))
  have HN := Aside0.mk (And.intro hset hu)
  have HS := Aside0.mk hst
  have hkn : (k : Int) < (b.Js.length : Int) := by omega
  have hk0 : (0 : Int) ≤ (k : Int) := by omega
  have hjl2 : (b.Js.length : Int) ≤ 1000000 := by omega
  clear h hR hp ha hI hj hrm hle hpk hkj hok hjk hs hu hst hset q1 q2
  go_enter Try.func27, Try.ntmps27
  go_upto_region 2 with (go_at_call 30; refine hfi.mono ?_; clear hfi; rintro e W0 ⟨rfl, hb1⟩)
  replace HM := Aside0.mk (HM.out.step hb1)
  have hm0 := Aside0.mk ((Mv.refl w (own3 R vq vl (.slice (some ⟨gb, 0, none⟩) b.Js.length cap))).below hb1)
  clear hb1
  obtain ⟨_, _, _, _, e2, _⟩ := HM.out.elemAt k hk
  rw [HKS.out.1] at e2
  have c7 : W0.cell? ⟨R, 7, none⟩ = some (.slice (some ⟨gb, 0, none⟩) b.Js.length cap) := (blk_cell HM.out.blk 7).trans rfl
  go_upto_region 4 with (fail)
  clear e2 c7
  generalize hn : b.Js.length = n at hkn hjl2 HM HA hm0
  have c7 : W0.cell? ⟨R, 7, none⟩ = some (.slice (some ⟨gb, 0, none⟩) n cap) := (blk_cell HM.out.blk 7).trans rfl
  have c6 : W0.cell? ⟨R, 6, none⟩ = some (.int .i64 b.tr) := (blk_cell HM.out.blk 6).trans rfl
  obtain ⟨hgR, hgl, _, _, e2, e3⟩ := HM.out.elemAt k hk
  rw [HKS.out.1] at e2
  rw [HKS.out.2] at e3
  refine start_ (n := 22) (S := fun w' => w'.cell? ⟨R, 7, none⟩ = some (.slice (some ⟨gb, 0, none⟩) n cap) ∧ w'.cell? ⟨R, 6, none⟩ = some (.int .i64 b.tr) ∧ w'.cell? ⟨gb, k * 4 + 2, none⟩ = some (.int .i64 3) ∧ w'.cell? ⟨gb, k * 4 + 3, none⟩ = some (.int .i64 us)) (ds := [21]) #[false, false, false, false, false, false, false, false, false, false, false, false, false, false, false, false, false, false, false, false, false, false] (by kernel_rfl) rfl rfl ⟨c7, c6, e2, e3⟩ (fun hHeld => ?_)
  have hb2 := below_drew1 (Below.refl W0.heap.size W0)
  have HM2 := Aside0.mk (HM.out.step hb2)
  have hB2 := Aside0.mk hb2
  generalize W0.drew = W2 at hHeld HM2 hB2 ⊢
  clear c7 c6 e2 e3 hb2 HM hgR hgl
  have kp : Aside0 (∀ w', Below W2.heap.size W2 w' → w'.cell? ⟨R, 7, none⟩ = some (.slice (some ⟨gb, 0, none⟩) n cap) ∧ w'.cell? ⟨R, 6, none⟩ = some (.int .i64 b.tr) ∧ w'.cell? ⟨gb, k * 4 + 2, none⟩ = some (.int .i64 3) ∧ w'.cell? ⟨gb, k * 4 + 3, none⟩ = some (.int .i64 us)) := ⟨fun w' hb => ⟨(hb.cell (p := ⟨R, 7, none⟩) (blk_lt HM2.out.blk)).trans hHeld.1, (hb.cell (p := ⟨R, 6, none⟩) (blk_lt HM2.out.blk)).trans hHeld.2.1, (hb.cell (p := ⟨gb, k * 4 + 2, none⟩) (HM2.out.elemAt k hk).2.1).trans hHeld.2.2.1, (hb.cell (p := ⟨gb, k * 4 + 3, none⟩) (HM2.out.elemAt k hk).2.1).trans hHeld.2.2.2⟩⟩
  have hst := Aside0.mk (rstep_run HS.out W2)
  have hfd := fld100 1 us
  refine pure_ (i := 0) (N := some 23) (v := ?_) (a' := ?_) #[true, false, false, false, false, false, false, false, false, false, false, false, false, false, false, false, false, false, false, false, false, false] rfl rfl (by kernel_rfl) (fun _ _ _ h => h) (Or.inl ⟨by rfl, ?_⟩) ?_ ?_
  rotate_left
  · intro w'
    go_simp
    with_reducible rfl
  rotate_left
  · simp only [Act.put, List.setIfInBounds_toArray, List.set_cons_zero, List.set_cons_succ]
    rfl
  refine pure_ (i := 1) (N := some 24) (v := ?_) (a' := ?_) #[true, true, false, false, false, false, false, false, false, false, false, false, false, false, false, false, false, false, false, false, false, false] rfl rfl (by kernel_rfl) (fun _ _ _ h => h) (Or.inl ⟨by rfl, ?_⟩) ?_ ?_
  rotate_left
  · intro w'
    go_simp
    with_reducible rfl
  rotate_left
  · simp only [Act.put, List.setIfInBounds_toArray, List.set_cons_zero, List.set_cons_succ]
    rfl
  refine pure_ (i := 2) (N := some 25) (v := ?_) (a' := ?_) #[true, true, true, false, false, false, false, false, false, false, false, false, false, false, false, false, false, false, false, false, false, false] rfl rfl (by kernel_rfl) (fun _ _ _ h => h) (Or.inl ⟨by rfl, ?_⟩) ?_ ?_
  rotate_left
  · intro w'
    go_simp
    with_reducible rfl
  rotate_left
  · simp only [Act.put, List.setIfInBounds_toArray, List.set_cons_zero, List.set_cons_succ]
    rfl
  refine take_ (i := 3) (N := some 26) (v := ?_) (a' := ?_) #[true, true, true, true, false, false, false, false, false, false, false, false, false, false, false, false, false, false, false, false, false, false] rfl rfl (by kernel_rfl) (fun _ _ _ h => h) (Or.inl ⟨by rfl, ?_⟩) hHeld ?_ ?_
  rotate_left
  · rintro w' ⟨s0, s1, s2, s3⟩
    go_simp
    with_reducible rfl
  rotate_left
  · simp only [Act.put, List.setIfInBounds_toArray, List.set_cons_zero, List.set_cons_succ]
    rfl
  refine pure_ (i := 4) (N := some 27) (v := ?_) (a' := ?_) #[true, true, true, true, true, false, false, false, false, false, false, false, false, false, false, false, false, false, false, false, false, false] rfl rfl (by kernel_rfl) (fun _ _ _ h => h) (Or.inl ⟨by rfl, ?_⟩) ?_ ?_
  rotate_left
  · intro w'
    go_simp
    with_reducible rfl
  rotate_left
  · simp only [Act.put, List.setIfInBounds_toArray, List.set_cons_zero, List.set_cons_succ]
    rfl
  refine pure_ (i := 5) (N := some 28) (v := ?_) (a' := ?_) #[true, true, true, true, true, true, false, false, false, false, false, false, false, false, false, false, false, false, false, false, false, false] rfl rfl (by kernel_rfl) (fun _ _ _ h => h) (Or.inl ⟨by rfl, ?_⟩) ?_ ?_
  rotate_left
  · intro w'
    go_simp
    with_reducible rfl
  rotate_left
  · simp only [Act.put, List.setIfInBounds_toArray, List.set_cons_zero, List.set_cons_succ]
    rfl
  refine pure_ (i := 6) (N := some 29) (v := ?_) (a' := ?_) #[true, true, true, true, true, true, true, false, false, false, false, false, false, false, false, false, false, false, false, false, false, false] rfl rfl (by kernel_rfl) (fun _ _ _ h => h) (Or.inl ⟨by rfl, ?_⟩) ?_ ?_
  rotate_left
  · intro w'
    go_simp
    with_reducible rfl
  rotate_left
  · simp only [Act.put, List.setIfInBounds_toArray, List.set_cons_zero, List.set_cons_succ]
    rfl
  refine pure_ (i := 7) (N := some 30) (v := ?_) (a' := ?_) #[true, true, true, true, true, true, true, true, false, false, false, false, false, false, false, false, false, false, false, false, false, false] rfl rfl (by kernel_rfl) (fun _ _ _ h => h) (Or.inl ⟨by rfl, ?_⟩) ?_ ?_
  rotate_left
  · intro w'
    go_simp
    with_reducible rfl
  rotate_left
  · simp only [Act.put, List.setIfInBounds_toArray, List.set_cons_zero, List.set_cons_succ]
    rfl
  refine take_ (i := 8) (N := some 31) (v := ?_) (a' := ?_) #[true, true, true, true, true, true, true, true, true, false, false, false, false, false, false, false, false, false, false, false, false, false] rfl rfl (by kernel_rfl) (fun _ _ _ h => h) (Or.inl ⟨by rfl, ?_⟩) hHeld ?_ ?_
  rotate_left
  · rintro w' ⟨s0, s1, s2, s3⟩
    go_simp
    with_reducible rfl
  rotate_left
  · simp only [Act.put, List.setIfInBounds_toArray, List.set_cons_zero, List.set_cons_succ]
    rfl
  refine pure_ (i := 9) (N := some 32) (v := ?_) (a' := ?_) #[true, true, true, true, true, true, true, true, true, true, false, false, false, false, false, false, false, false, false, false, false, false] rfl rfl (by kernel_rfl) (fun _ _ _ h => h) (Or.inl ⟨by rfl, ?_⟩) ?_ ?_
  rotate_left
  · intro w'
    go_simp
    with_reducible rfl
  rotate_left
  · simp only [Act.put, List.setIfInBounds_toArray, List.set_cons_zero, List.set_cons_succ]
    rfl
  refine pure_ (i := 10) (N := some 33) (v := ?_) (a' := ?_) #[true, true, true, true, true, true, true, true, true, true, true, false, false, false, false, false, false, false, false, false, false, false] rfl rfl (by kernel_rfl) (fun _ _ _ h => h) (Or.inl ⟨by rfl, ?_⟩) ?_ ?_
  rotate_left
  · intro w'
    go_simp
    with_reducible rfl
  rotate_left
  · simp only [Act.put, List.setIfInBounds_toArray, List.set_cons_zero, List.set_cons_succ]
    rfl
  refine pure_ (i := 11) (N := some 34) (v := ?_) (a' := ?_) #[true, true, true, true, true, true, true, true, true, true, true, true, false, false, false, false, false, false, false, false, false, false] rfl rfl (by kernel_rfl) (fun _ _ _ h => h) (Or.inl ⟨by rfl, ?_⟩) ?_ ?_
  rotate_left
  · intro w'
    go_simp
    with_reducible rfl
  rotate_left
  · simp only [Act.put, List.setIfInBounds_toArray, List.set_cons_zero, List.set_cons_succ]
    rfl
  refine take_ (i := 12) (N := some 35) (v := ?_) (a' := ?_) #[true, true, true, true, true, true, true, true, true, true, true, true, true, false, false, false, false, false, false, false, false, false] rfl rfl (by kernel_rfl) (fun _ _ _ h => h) (Or.inl ⟨by rfl, ?_⟩) hHeld ?_ ?_
  rotate_left
  · rintro w' ⟨s0, s1, s2, s3⟩
    go_simp
    with_reducible rfl
  rotate_left
  · simp only [Act.put, List.setIfInBounds_toArray, List.set_cons_zero, List.set_cons_succ]
    rfl
  refine pure_ (i := 13) (N := some 36) (v := ?_) (a' := ?_) #[true, true, true, true, true, true, true, true, true, true, true, true, true, true, false, false, false, false, false, false, false, false] rfl rfl (by kernel_rfl) (fun _ _ _ h => h) (Or.inl ⟨by rfl, ?_⟩) ?_ ?_
  rotate_left
  · intro w'
    go_simp
    with_reducible rfl
  rotate_left
  · simp only [Act.put, List.setIfInBounds_toArray, List.set_cons_zero, List.set_cons_succ]
    rfl
  refine pure_ (i := 14) (N := some 37) (v := ?_) (a' := ?_) #[true, true, true, true, true, true, true, true, true, true, true, true, true, true, true, false, false, false, false, false, false, false] rfl rfl (by kernel_rfl) (fun _ _ _ h => h) (Or.inl ⟨by rfl, ?_⟩) ?_ ?_
  rotate_left
  · intro w'
    go_simp
    with_reducible rfl
  rotate_left
  · simp only [Act.put, List.setIfInBounds_toArray, List.set_cons_zero, List.set_cons_succ]
    rfl
  refine pure_ (i := 15) (N := some 38) (v := ?_) (a' := ?_) #[true, true, true, true, true, true, true, true, true, true, true, true, true, true, true, true, false, false, false, false, false, false] rfl rfl (by kernel_rfl) (fun _ _ _ h => h) (Or.inl ⟨by rfl, ?_⟩) ?_ ?_
  rotate_left
  · intro w'
    go_simp
    with_reducible rfl
  rotate_left
  · simp only [Act.put, List.setIfInBounds_toArray, List.set_cons_zero, List.set_cons_succ]
    rfl
  refine take_ (i := 16) (N := some 39) (v := ?_) (a' := ?_) #[true, true, true, true, true, true, true, true, true, true, true, true, true, true, true, true, true, false, false, false, false, false] rfl rfl (by kernel_rfl) (fun _ _ _ h => h) (Or.inl ⟨by rfl, ?_⟩) hHeld ?_ ?_
  rotate_left
  · rintro w' ⟨s0, s1, s2, s3⟩
    go_simp
    with_reducible rfl
  rotate_left
  · simp only [Act.put, List.setIfInBounds_toArray, List.set_cons_zero, List.set_cons_succ]
    rfl
  refine one_ (i := 17) (N := some 40) #[true, true, true, true, true, true, true, true, true, true, true, true, true, true, true, true, true, true, false, false, false, false] rfl rfl (by kernel_rfl) (by decide) (fun K hK => ?_)
  refine call_ 46 #[.int .i64 b.tr, .agg #[.int .i64 3, .int .i64 us], .int .i64 4] (by rfl) rfl (by go_simp) ?_
  refine hst.out.mono ?_
  rintro e w4 ⟨rfl, hb4⟩
  refine ⟨_, rfl, ?_⟩
  have hS4 := kp.out w4 hb4
  refine hK.out _ _ hS4 (fun hHeld => ?_)
  clear hK K hHeld
  have hHeld := hS4
  clear hS4
  refine norm_ (a' := ?_) ?_ ?_
  rotate_left
  · show Act.put _ (some 40) _ = _
    simp only [Act.put, List.setIfInBounds_toArray, List.set_cons_zero, List.set_cons_succ]
    rfl
  refine pure_ (i := 18) (N := some 41) (v := ?_) (a' := ?_) #[true, true, true, true, true, true, true, true, true, true, true, true, true, true, true, true, true, true, true, false, false, false] rfl rfl (by kernel_rfl) (fun _ _ _ h => h) (Or.inl ⟨by rfl, ?_⟩) ?_ ?_
  rotate_left
  · intro w'
    go_simp
    with_reducible rfl
  rotate_left
  · simp only [Act.put, List.setIfInBounds_toArray, List.set_cons_zero, List.set_cons_succ]
    rfl
  refine pure_ (i := 19) (N := some 42) (v := ?_) (a' := ?_) #[true, true, true, true, true, true, true, true, true, true, true, true, true, true, true, true, true, true, true, true, false, false] rfl rfl (by kernel_rfl) (fun _ _ _ h => h) (Or.inl ⟨by rfl, ?_⟩) ?_ ?_
  rotate_left
  · intro w'
    go_simp
    with_reducible rfl
  rotate_left
  · simp only [Act.put, List.setIfInBounds_toArray, List.set_cons_zero, List.set_cons_succ]
    rfl
  refine pure_ (i := 20) (N := some 43) (v := ?_) (a' := ?_) #[true, true, true, true, true, true, true, true, true, true, true, true, true, true, true, true, true, true, true, true, true, false] rfl rfl (by kernel_rfl) (fun _ _ _ h => h) (Or.inl ⟨by rfl, ?_⟩) ?_ ?_
  rotate_left
  · intro w'
    go_simp
    with_reducible rfl
  rotate_left
  · simp only [Act.put, List.setIfInBounds_toArray, List.set_cons_zero, List.set_cons_succ]
    rfl
  have H4 := Aside0.mk (HM2.out.step hb4)
  have hb4 := Aside0.mk (below_step hB2.out hb4)
  have f2 := (H4.out.elemAt k hk).2.2.1 (k * 4 + 2)
  have f3 := (H4.out.elemAt k hk).2.2.1 (k * 4 + 3)
  have s2 := hHeld.2.2.1
  have s3 := hHeld.2.2.2
  clear hHeld HM2 hst hfd
  refine last_ (i := 21) (N := none) #[true, true, true, true, true, true, true, true, true, true, true, true, true, true, true, true, true, true, true, true, true, true] rfl rfl (by kernel_rfl) (by decide) (fun K hK => ?_)
  refine skip_ (w1 := ?_) (by rfl) rfl ?_ ?_
  rotate_left
  · go_simp
    rfl
  refine hK.out _ _ ?_
  clear hK K
  refine done_ (by kernel_rfl) ?_
  obtain ⟨H6, hF6⟩ := H4.out.setJ HA.out k hk 1 us
  have H6 := Aside0.mk H6
  have hM6 := Aside0.mk (((Mv.refl W0 (own3 R vq vl (.slice (some ⟨gb, 0, none⟩) n cap))).below hb4.out).trans (Mv.set hF6))
  clear s2 s3 f2 f3 kp H4 hb4 hF6
  generalize (w4.setCell ⟨gb, k * 4 + 2, none⟩ (.int .i64 1)).setCell ⟨gb, k * 4 + 3, none⟩ (.int .i64 us) = w6 at H6 hM6 ⊢
  have e1 : w6.cell? ⟨gb, k * 4 + 1, none⟩ = some (.int .i64 j.cls) := by
    have h1 := (H6.out.elemAt k (by rw [List.length_set]; exact hk)).2.2.2.1
    rw [List.getElem_set_self] at h1
    exact h1.trans (by rw [HC.out])
  have c7 : w6.cell? ⟨R, 7, none⟩ = some (.slice (some ⟨gb, 0, none⟩) n cap) := (blk_cell H6.out.blk 7).trans rfl
  have hpt : Calls Try.prog 44 #[.pointer (some ⟨R, 0, none⟩), .int .i64 j.id, .int .i64 j.cls] _ _ := rput_some (H6.out.step (below_drew1 (Below.refl w6.heap.size w6))).q HP.out.1 HP.out.2.1 HP.out.2.2.1 j.id j.cls
  rw [HP.out.2.2.2.1, HP.out.2.2.2.2] at hpt
  have hdr := Aside0.mk (below_drew1 (Below.refl w6.heap.size w6))
  go_upto_region 5 with (fail)
  have kp : Aside0 (∀ w9 LR', RGo N w6.drew (.big R vl (.int .i64 b.ct) (.int .i64 b.tr) (.slice (some ⟨gb, 0, none⟩) n cap)) vq w9 b.ag b.rm b.ct LR' → w9.cell? ⟨R, 7, none⟩ = some (.slice (some ⟨gb, 0, none⟩) n cap) ∧ w9.cell? ⟨gb, k * 4 + 1, none⟩ = some (.int .i64 j.cls)) := ⟨fun w9 LR' hg => by
    obtain ⟨vq', h9, _, _⟩ := (H6.out.step hdr.out).goQ HA.out hg
    refine ⟨(blk_cell h9.blk 7).trans rfl, ?_⟩
    have h1 := (h9.elemAt k (by rw [List.length_set]; exact hk)).2.2.2.1
    rw [List.getElem_set_self] at h1
    exact h1.trans (by rw [HC.out])⟩
  go_region_held3 (fun w' => w'.cell? ⟨R, 7, none⟩ = some (.slice (some ⟨gb, 0, none⟩) n cap) ∧ w'.cell? ⟨gb, k * 4 + 1, none⟩ = some (.int .i64 j.cls)) (first | (obtain ⟨LR', _, _, hg⟩ := hz.out; exact kp.out _ LR' hg) | go_keep) (first
    | (go_at_call 44; refine hpt.mono ?_; clear hpt; rintro e w9 ⟨rfl, hz⟩))
  obtain ⟨LR', hp', _, hg⟩ := hz.out
  obtain ⟨vq', h9, ha9, hm9⟩ := (H6.out.step hdr.out).goQ HA.out hg
  rw [HN.out.1] at h9
  have hE := Aside0.mk (⟨_, ⟨⟨vq', vl, _, LR', by rw [show (wakeB b j).Js = setJ b.Js j.id 1 us from by show setJ b.Js j.id 1 j.us = _; rw [HN.out.2]]; exact h9, hp', ha9, rfl⟩⟩, (hm0.out.trans hM6.out).trans (((Mv.refl w6 _).below hdr.out).trans hm9)⟩ : RIGo N w R _ w9 (wakeB b j))
  clear h9 ha9 hm9 hg hp' hz
  go_wp2
  go_ret
  exact ⟨rfl, hE⟩
end
end Go.Proofs.Ytfkebbkfmchnaaa.Bk

set_option linter.unusedVariables false
namespace Go.Proofs.Ytfkebbkfmchnaaa.Bk
open Go.RowKit Go.Proofs.Ytfkebbkfmchnaaa.PBase Go.Proofs.Ytfkebbkfmchnaaa.Heap Go.Proofs.Ytfkebbkfmchnaaa.Ln Go.Proofs.Ytfkebbkfmchnaaa.Lst Go.Proofs.Ytfkebbkfmchnaaa.PStp Go.Proofs.YtfkebbkfmchnaaaW.PrintWords Go.Proofs.YtfkebbkfmchnaaaW.PrintLast Go.Proofs.YtfkebbkfmchnaaaW.PrintMore
section
variable {N : Nat} {w w' : World} {R : Nat} {X : Nat → Prop} {b : Book} {vq vl vj : Value} {ag rm ct last tr : Int} {LQ : List S77} {Ls : List Gr} {Js : List Jb}
/-! ### Drop -/
set_option maxHeartbeats 8000000 in
set_option maxRecDepth 100000 in
theorem rbdrop_no (h : RI N w R X b) (hI : Inv b) (id : Int) (hn : id ∉ b.Js.map jid) : Calls Try.prog 28 #[ptr R, .int .i64 id] w fun e w' => e = .returned (.bool false) ∧ Below w.heap.size w w' := by
  obtain ⟨vq, vl, vj, LQ, hR, hp, ha, rfl⟩ := h.ex
  have hrm := hI.rm
  have hle := hI.le
  have hfi := rfind12 hR id (by omega) (-1) (pos_none (lk_none.2 hn))
  clear h hR hp ha hI hn hrm hle
  go_enter Try.func28, Try.ntmps28
  go_wp2_with (go_at_call 30; refine hfi.mono ?_; clear hfi; rintro e w1 ⟨rfl, hb1⟩)
  go_ret
  exact ⟨rfl, hb1⟩
/-- Ahead of the lease: gone, the queue's Drop, Of. -/
structure DAt (N : Nat) (w : World) (R : Nat) (X : Nat → Prop) (b : Book) (id : Int) (vq vl vj : Value) (LQ : List S77) (w5 : World) : Prop where
  rb : RB N w5 R vq vl vj b.ag b.rm b.ct b.ct b.tr LQ b.Ls (Lst.rm jid b.Js id)
  ap : Apart vq vl vj
  mv : Mv w X w5 (own3 R vq vl vj)
  pm : LQ.Perm (dropL b.ag b.L id)
set_option maxHeartbeats 8000000 in
set_option maxRecDepth 100000 in
theorem rbdrop_plain (h : RI N w R X b) (hI : Inv b) (hct : b.ct ≤ 10000) (id : Int) (hin : id ∈ b.Js.map jid) (hg : lk gjo b.Ls id = none) : Calls Try.prog 28 #[ptr R, .int .i64 id] w fun e w' => e = .returned (.bool true) ∧ Aside0 (RIGo N w R X w' (goneB b id)) := by
  obtain ⟨vq, vl, vj, LQ, hR, hp, ha, rfl⟩ := h.ex
  have hrm := hI.rm
  have hle := hI.le
  have hll := hI.llen
  obtain ⟨j, hj⟩ := Option.isSome_iff_exists.1 (lk_isSome.2 hin)
  obtain ⟨k, hk, hpk, hkj⟩ := pos_some hj
  have hfi := rfind12 hR id (by omega) k hpk
  have k3 : (0 : Int) ≤ (k : Int) := by omega
  have HM := Aside0.mk hR
  have HA := Aside0.mk ha
  have HP := Aside0.mk (And.intro hp (And.intro hI.st (show b.L.length ≤ 1000 by have := hI.len; omega)))
  have HG := Aside0.mk (And.intro hg (rm_no (κ := gjo) (lk_none.1 hg)))
  have HL := Aside0.mk (show b.Js.length ≤ 100000 ∧ b.Ls.length ≤ 100000 by omega)
  clear h hR hp ha hI hin hj hrm hle hll hpk hkj hk hg hct
  go_enter Try.func28, Try.ntmps28
  go_upto_region 3 with (go_at_call 30; refine hfi.mono ?_; clear hfi; rintro e w1 ⟨rfl, hb1⟩)
  replace HM := Aside0.mk (HM.out.step hb1)
  have hm1 := Aside0.mk ((Mv.refl w (own3 R vq vl vj)).below hb1)
  have hgo := gone12 HM.out id HL.out.1
  clear hb1
  go_upto_region 4 with (go_at_call 50; refine hgo.mono ?_; clear hgo; rintro e w2 ⟨rfl, hz2⟩)
  obtain ⟨vj2, h2, ha2, hm2⟩ := HM.out.goJ HA.out hz2.out
  have hdq : Calls Try.prog 51 #[.pointer (some ⟨R, 0, none⟩), .int .i64 id] w2 _ := rdrop_some h2.q HP.out.1 HP.out.2.1 HP.out.2.2 id
  have H2 := Aside0.mk (And.intro h2 (And.intro ha2 (hm1.out.trans hm2)))
  clear h2 ha2 hm2 hz2
  go_upto_region 5 with (go_at_call 51; refine hdq.mono ?_; clear hdq; rintro e w3 ⟨rfl, hz3⟩)
  obtain ⟨LR3, hp3, _, hg3⟩ := hz3.out
  obtain ⟨vq3, h3, ha3, hm3⟩ := H2.out.1.goQ H2.out.2.1 hg3
  have hof := rof12 h3 id (by have := HL.out; omega) ⟨0, 0, 0⟩ (by rw [HG.out.1]; rfl) false (by rw [HG.out.1]; rfl)
  have H3 := Aside0.mk (DAt.mk h3 ha3 (H2.out.2.2.trans hm3) hp3)
  clear h3 ha3 hm3 hg3 hp3 hz3
  go_upto_region 6 with (go_at_call 52; refine hof.mono ?_; clear hof; rintro e w4 ⟨rfl, hb4⟩)
  generalize hw5 : w4.alloc (.cells #[.int .i64 0, .int .i64 0, .int .u64 0, .bool false] 104) = w5
  have hb5 : Below w4.heap.size w4 w5 := by rw [← hw5]; exact below_alloc (Below.refl _ _) _
  have hy5 : w5.heap[w4.heap.size]? = some (.cells #[.int .i64 0, .int .i64 0, .int .u64 0, .bool false] 104 (0, 0)) := by rw [← hw5]; exact blk_new _ _
  have hb35 := below_step hb4 hb5
  have hE := Aside0.mk (⟨_, ⟨⟨vq3, vl, vj2, LR3, by rw [show (goneB b id).Ls = b.Ls from HG.out.2]; exact H3.out.rb.step hb35, H3.out.pm, H3.out.ap, rfl⟩⟩, H3.out.mv.below hb35⟩ : RIGo N w R _ w5 (goneB b id))
  have y3 := (blk_cell hy5 3).trans rfl
  clear hw5 hb5 hy5 hb35 hb4
  go_wp2
  go_ret
  exact ⟨rfl, hE⟩
set_option maxHeartbeats 8000000 in
set_option maxRecDepth 100000 in
theorem rbdrop_lease (h : RI N w R X b) (hI : Inv b) (hct : b.ct ≤ 10000) (id : Int) (hin : id ∈ b.Js.map jid) (g : Gr) (hg : lk gjo b.Ls id = some g) : Calls Try.prog 28 #[ptr R, .int .i64 id] w fun e w' => e = .returned (.bool true) ∧ Aside0 (RIGo N w R X w' (goneB b id)) := by
  obtain ⟨vq, vl, vj, LQ, hR, hp, ha, rfl⟩ := h.ex
  have hrm := hI.rm
  have hle := hI.le
  have hll := hI.llen
  obtain ⟨j, hj⟩ := Option.isSome_iff_exists.1 (lk_isSome.2 hin)
  obtain ⟨k, hk, hpk, hkj⟩ := pos_some hj
  have hfi := rfind12 hR id (by omega) k hpk
  have k3 : (0 : Int) ≤ (k : Int) := by omega
  have HM := Aside0.mk hR
  have HA := Aside0.mk ha
  have HP := Aside0.mk (And.intro hp (And.intro hI.st (show b.L.length ≤ 1000 by have := hI.len; omega)))
  have hrme : Lst.rm gno b.Ls g.n = Lst.rm gjo b.Ls id := by
    have h1 := rm_eq hI.gn hI.gj (lk_mem hg).1
    rw [show g.j = id from (lk_mem hg).2] at h1
    exact h1
  have hgn : lk gno b.Ls g.n = some g := lk_get hI.gn (lk_mem hg).1
  have HG := Aside0.mk (And.intro hg (And.intro hrme hgn))
  have HL := Aside0.mk (show b.Js.length ≤ 100000 ∧ b.Ls.length ≤ 100000 by omega)
  clear h hR hp ha hI hin hj hrm hle hll hpk hkj hk hg hct hrme hgn
  go_enter Try.func28, Try.ntmps28
  go_upto_region 3 with (go_at_call 30; refine hfi.mono ?_; clear hfi; rintro e w1 ⟨rfl, hb1⟩)
  replace HM := Aside0.mk (HM.out.step hb1)
  have hm1 := Aside0.mk ((Mv.refl w (own3 R vq vl vj)).below hb1)
  have hgo := gone12 HM.out id HL.out.1
  clear hb1
  go_upto_region 4 with (go_at_call 50; refine hgo.mono ?_; clear hgo; rintro e w2 ⟨rfl, hz2⟩)
  obtain ⟨vj2, h2, ha2, hm2⟩ := HM.out.goJ HA.out hz2.out
  have hdq : Calls Try.prog 51 #[.pointer (some ⟨R, 0, none⟩), .int .i64 id] w2 _ := rdrop_some h2.q HP.out.1 HP.out.2.1 HP.out.2.2 id
  have H2 := Aside0.mk (And.intro h2 (And.intro ha2 (hm1.out.trans hm2)))
  clear h2 ha2 hm2 hz2
  go_upto_region 5 with (go_at_call 51; refine hdq.mono ?_; clear hdq; rintro e w3 ⟨rfl, hz3⟩)
  obtain ⟨LR3, hp3, _, hg3⟩ := hz3.out
  obtain ⟨vq3, h3, ha3, hm3⟩ := H2.out.1.goQ H2.out.2.1 hg3
  have hof := rof12 h3 id (by have := HL.out; omega) g (by rw [HG.out.1]; rfl) true (by rw [HG.out.1]; rfl)
  have H3 := Aside0.mk (DAt.mk h3 ha3 (H2.out.2.2.trans hm3) hp3)
  clear h3 ha3 hm3 hg3 hp3 hz3
  go_upto_region 6 with (go_at_call 52; refine hof.mono ?_; clear hof; rintro e w4 ⟨rfl, hb4⟩)
  generalize hw5 : w4.alloc (.cells #[.int .i64 g.n, .int .i64 g.j, .int .u64 g.u, .bool true] 104) = w5
  have hb5 : Below w4.heap.size w4 w5 := by rw [← hw5]; exact below_alloc (Below.refl _ _) _
  have hy5 : w5.heap[w4.heap.size]? = some (.cells #[.int .i64 g.n, .int .i64 g.j, .int .u64 g.u, .bool true] 104 (0, 0)) := by rw [← hw5]; exact blk_new _ _
  have hb35 := below_step hb4 hb5
  have hltX : ∀ k, own3 R vq3 vl vj2 k → k < w4.heap.size := fun k hk => Nat.lt_of_lt_of_le (H3.out.rb.lt3 k hk).2 hb4.size
  have H5 := Aside0.mk (DAt.mk (H3.out.rb.step hb35) H3.out.ap (H3.out.mv.below hb35) H3.out.pm)
  have y3 := (blk_cell hy5 3).trans rfl
  have HY := Aside0.mk (show w5.heap[w4.heap.size]? = some (.cells #[.int .i64 g.n, .int .i64 g.j, .int .u64 g.u, .bool true] 104 (0, 0)) ∧ ¬ own3 R vq3 vl vj2 w4.heap.size from ⟨hy5, fun e => by have := hltX _ e; omega⟩)
  generalize w4.heap.size = gy at HY y3 ⊢
  clear hw5 hb5 hy5 hb35 hb4 hltX
  go_upto_region 7 with (fail)
  have y0 : w5.cell? ⟨gy, 0, none⟩ = some (.int .i64 g.n) := (blk_cell HY.out.1 0).trans rfl
  have hdr := Aside0.mk (below_drew1 (Below.refl w5.heap.size w5))
  have hdl := rtdrop (H5.out.rb.step hdr.out) g.n (by have := HL.out; omega) g (by rw [HG.out.2.2]; rfl) true (by rw [HG.out.2.2]; rfl)
  have kp : Aside0 (∀ w9, LGo N w5.drew R vq3 vj2 w9 b.ag b.rm b.ct b.ct b.tr LR3 (Lst.rm gno b.Ls g.n) (Lst.rm jid b.Js id) → w9.cell? ⟨gy, 0, none⟩ = some (.int .i64 g.n)) := ⟨fun w9 hg => by
    obtain ⟨v', _, hF, _⟩ := hg
    exact (hF.cell (show w5.drew.cell? ⟨gy, 0, none⟩ = _ from y0) (fun e => HY.out.2 (.inl e)))⟩
  go_region_held3 (fun w' => w'.cell? ⟨gy, 0, none⟩ = some (.int .i64 g.n)) (first | exact kp.out _ hz9.out | go_keep) (first
    | (go_at_call 49; refine hdl.mono ?_; clear hdl; rintro e w9 ⟨rfl, hz9⟩))
  obtain ⟨vl9, h9, ha9, hm9⟩ := (H5.out.rb.step hdr.out).goL H5.out.ap hz9.out
  rw [HG.out.2.1] at h9
  have hE := Aside0.mk (⟨_, ⟨⟨vq3, vl9, vj2, LR3, h9, H5.out.pm, ha9, rfl⟩⟩, (H5.out.mv.below hdr.out).trans hm9⟩ : RIGo N w R _ w9 (goneB b id))
  clear h9 ha9 hm9 hz9 kp
  go_wp2
  go_ret
  exact ⟨rfl, hE⟩
theorem rbdrop (h : RI N w R X b) (hI : Inv b) (hct : b.ct ≤ 10000) (id : Int) (hin : id ∈ b.Js.map jid) : Calls Try.prog 28 #[ptr R, .int .i64 id] w fun e w' => e = .returned (.bool true) ∧ Aside0 (RIGo N w R X w' (goneB b id)) := by
  rcases hg : lk gjo b.Ls id with _ | g
  · exact rbdrop_plain h hI hct id hin hg
  · exact rbdrop_lease h hI hct id hin g hg
/-! ### New -/
set_option maxHeartbeats 4000000 in
set_option maxRecDepth 100000 in
theorem rnew12 (N : Nat) (w : World) (hN : N ≤ w.heap.size) (ag rm tr : Int) : Calls Try.prog 22 #[.int .i64 ag, .int .i64 rm, .int .i64 tr] w fun e w' => e = .returned (ptr w.heap.size) ∧ Below w.heap.size w w' ∧ Aside0 (∃ X, RI N w' w.heap.size X (b0 ag rm tr) ∧ (∀ k, X k → k = w.heap.size) ∧ w.heap.size < w'.heap.size) := by
  have HN := Aside0.mk hN
  clear hN
  go_enter Try.func22, Try.ntmps22
  go_wp2
  go_ret
  refine ⟨rfl, below_alloc (Below.refl _ _) _, ⟨_, ⟨⟨.slice none 0 0, .slice none 0 0, .slice none 0 0, [], ⟨⟨blk_new _ _, Kd.R_nil _ _ _ _ _, HN.out⟩, Kd.R_nil _ _ _ _ _, Kd.R_nil _ _ _ _ _⟩, List.Perm.refl _, (fun k hk => nomatch hk), rfl⟩⟩, fun k hk => ?_, blk_lt (blk_new _ _)⟩⟩
  rcases hk with rfl | hk | hk | hk
  · rfl
  · cases hk
  · cases hk
  · cases hk
end
end Go.Proofs.Ytfkebbkfmchnaaa.Bk

set_option linter.unusedVariables false
namespace Go.Proofs.Ytfkebbkfmchnaaa.Bk
open Go.RowKit Go.Proofs.Ytfkebbkfmchnaaa.PBase Go.Proofs.Ytfkebbkfmchnaaa.Heap Go.Proofs.Ytfkebbkfmchnaaa.Ln Go.Proofs.Ytfkebbkfmchnaaa.Lst Go.Proofs.Ytfkebbkfmchnaaa.PStp Go.Proofs.YtfkebbkfmchnaaaW.PrintWords Go.Proofs.YtfkebbkfmchnaaaW.PrintLast Go.Proofs.YtfkebbkfmchnaaaW.PrintMore
section
variable {N : Nat} {w w' : World} {R : Nat} {X : Nat → Prop} {b : Book} {vq vl vj : Value} {ag rm ct last tr : Int} {LQ : List S77} {Ls : List Gr} {Js : List Jb}
theorem rfetch_ret {Q : Ending → World → Prop} {tmps : Array Value} {W : World} {n j t u : Int} {b : Int} {g : Nat} (hg : tmps.getD 4 undef = ptr g) (he : tmps.getD 5 undef = .int .i64 b) (hb : W.heap[g]? = some (.cells #[.int .i64 n, .int .i64 j, .int .i64 0, .int .i64 0, .int .i64 t, .int .u64 u] 33 (0, 0))) (hQ : Q (.returned (.tuple #[lv n j t u, .int .i64 b])) W) : bodyPost Try.prog Try.f24 Q Exit.ret { tmps := tmps, defers := [] } W :=
  bodyPost_ret (v := .tuple #[lv n j t u, .int .i64 b]) (by rw [← he]; exact results_ct (fn := Try.f24) rfl tmps W g 33 _ (0, 0) _ hg hb Try.underlying33 rfl (by kernel_rfl)) rfl hQ
theorem RI.away {F : Nat → Prop} (h : RI N w R X b) (hf : Fr F w w') (hn : ∀ k, X k → ¬ F k) : RI N w' R X b := by
  obtain ⟨vq, vl, vj, LQ, hR, hp, ha, rfl⟩ := h.ex
  exact ⟨vq, vl, vj, LQ, hR.away hf hn, hp, ha, rfl⟩
/-- The own box may change at the end. -/
theorem RI.fin {w2 w3 : World} {X2 : Nat → Prop} {g : Nat} (h : RI N w2 R X2 b) (hm : Mv w X w2 X2) (hg : w.heap.size ≤ g) (hn : ¬ X2 g) (hf : Fr (fun k => k = g) w2 w3) : RIGo N w R X w3 b :=
  ⟨X2, h.away hf (fun k hk e => hn (e ▸ hk)), Fr.then_ hm.fr hf (fun k e => .inr (by rw [e]; exact hg)), hm.at_⟩
set_option maxHeartbeats 8000000 in
set_option maxRecDepth 100000 in
theorem rfetch_no (h : RI N w R X b) (hI : Inv b) (un : Int) (h0 : b.L = []) : Calls Try.prog 24 #[ptr R, .int .u64 un] w fun e w' => e = .returned (.tuple #[lv 0 0 0 0, .int .i64 12]) ∧ Aside0 (RIGo N w R X w' b) := by
  obtain ⟨vq, vl, vj, LQ, hR, hp, ha, rfl⟩ := h.ex
  have hb1 : Below w.heap.size w (w.alloc zl) := below_alloc (Below.refl _ _) _
  have hp0 := hp
  rw [h0, List.perm_nil] at hp0
  subst hp0
  have hR1 := hR.step hb1
  have hq1 := hR1.q
  have htk0 := rtake_nil hq1
  have htk : Calls Try.prog 45 #[.pointer (some ⟨R, 0, none⟩)] (w.alloc zl) _ := htk0
  have H := Aside0.mk (And.intro hR1 (And.intro ha hp))
  have HX := Aside0.mk (show (w.alloc zl).heap[w.heap.size]? = some (.cells #[.int .i64 0, .int .i64 0, .int .i64 0, .int .i64 0, .int .i64 0, .int .u64 0] 33 (0, 0)) ∧ ¬ own3 R vq vl vj w.heap.size from ⟨blk_new w zl, fun e => by have := (hR.lt3 _ e).2; omega⟩)
  have hb1 := Aside0.mk hb1
  clear h hI hR hp ha h0 hR1 hq1 htk0
  go_enter Try.func24, Try.ntmps24
  go_upto_region 2 with (go_at_call 45; refine htk.mono ?_; clear htk; rintro e w1 ⟨rfl, hz1⟩)
  generalize hw2 : w1.alloc (.cells #[.int .i64 0, .int .i64 0, .int .i64 0] 77) = w2
  have hb2 : Below w1.heap.size w1 w2 := by rw [← hw2]; exact below_alloc (Below.refl _ _) _
  have hz1' := hz1.out
  obtain ⟨vq1, h1, ha1, hm1⟩ := H.out.1.goQ H.out.2.1 hz1'
  have hx2 := box_below (box_mv HX.out hm1) hb2
  have s0 := (blk_cell hx2.1 0).trans rfl
  have s1 := (blk_cell hx2.1 1).trans rfl
  have s2 := (blk_cell hx2.1 2).trans rfl
  have s3 := (blk_cell hx2.1 3).trans rfl
  have s4 := (blk_cell hx2.1 4).trans rfl
  have s5 := (blk_cell hx2.1 5).trans rfl
  have f0 := blk_frozen hx2.1 0
  have f1 := blk_frozen hx2.1 1
  have f2 := blk_frozen hx2.1 2
  have f3 := blk_frozen hx2.1 3
  have f4 := blk_frozen hx2.1 4
  have f5 := blk_frozen hx2.1 5
  have hE := Aside0.mk (show RI N w2 R (own3 R vq1 vl vj) b from ⟨vq1, vl, vj, [], h1.step hb2, H.out.2.2, ha1, rfl⟩)
  have hM := Aside0.mk ((((Mv.refl w _).below hb1.out).trans hm1).below hb2)
  have hx2 := Aside0.mk hx2
  clear hw2 hb2 hz1 hz1' h1 ha1 hm1
  go_wp2
  have hF := fr_set6 w2 w.heap.size (.int .i64 0) (.int .i64 0) (.int .i64 0) (.int .i64 0) (.int .i64 0) (.int .u64 0)
  exact rfetch_ret (g := w.heap.size) rfl rfl (blk_put (blk_put (blk_put (blk_put (blk_put (blk_put hx2.out.1 0 _ rfl) 1 _ rfl) 2 _ rfl) 3 _ rfl) 4 _ rfl) 5 _ rfl) ⟨rfl, ⟨hE.out.fin hM.out (Nat.le_refl _) hx2.out.2 hF⟩⟩
set_option maxHeartbeats 8000000 in
set_option maxRecDepth 100000 in
theorem rfetch_yes (h : RI N w R X b) (hI : Inv b) (un : Int) (h0 : 0 < b.L.length) (hct : b.ct ≤ 10000) (us : Int) (hus : usedOf b (fetchJ b).f0 = us) (c1 : Int) (hc1 : b.ct + 1 = c1) :
    Calls Try.prog 24 #[ptr R, .int .u64 un] w fun e w' => e = .returned (.tuple #[lv c1 (fetchJ b).f0 (us + 1) un, .int .i64 0]) ∧ Aside0 (RIGo N w R X w' (fetchB b un)) := by
  obtain ⟨vq, vl, vj, LQ, hR, hp, ha, rfl⟩ := h.ex
  obtain ⟨hxm, j, hj, hji, hjc, hjs, hjk⟩ := hI.first h0
  obtain ⟨x, hx0⟩ : ∃ x, fetchJ b = x := ⟨_, rfl⟩
  have hju : j.us = us := by rw [← hus]; unfold usedOf; rw [hjk]; rfl
  have hok := (hI.ok j hj).2
  have hct0 := hI.ct
  have hrm := hI.rm
  have hle := hI.le
  have hll := hI.llen
  have hL1 : b.L.length ≤ 1000 := by have := hI.len; omega
  have hnl : (fetchJ b).f0 ∉ b.Ls.map gjo := by rw [← hji]; exact hI.no_lease hj (by omega)
  have hnn : c1 ∉ b.Ls.map gno := by
    intro hx
    obtain ⟨g, hg, e⟩ := List.mem_map.1 hx
    have := (hI.g g hg).2.1
    have e : g.n = c1 := e
    omega
  have hw : IntKind.i64.wrap (b.ct + 1) = c1 := by rw [i64_w, hc1]; unfold wrap64; omega
  have hst : remontoirref11_Step.f 9 b.tr 1 us 1 = some (2, us + 1, true) := rstep_fetch hI.tr (by omega)
  obtain ⟨k, hk, hpk, hkj⟩ := pos_some hjk
  have hset : b.Js.set k ⟨b.Js[k].id, b.Js[k].cls, 2, us + 1⟩ = Bk.setJ b.Js x.f0 2 (us + 1) := set_setJ hI.nd hk x.f0 (by rw [hkj, ← hx0]; exact hji) 2 (us + 1)
  have hb1 : Below w.heap.size w (w.alloc zl) := below_alloc (Below.refl _ _) _
  have hR1 := hR.step hb1
  have htk : Calls Try.prog 45 #[.pointer (some ⟨R, 0, none⟩)] (w.alloc zl) _ := rtake_some hR1.q hp hI.st h0 hL1 c1 hw x hx0
  obtain ⟨gb, cap, e, _⟩ := hR.elem k hk
  subst e
  have H := Aside0.mk (And.intro hR1 ha)
  have HX := Aside0.mk (show (w.alloc zl).heap[w.heap.size]? = some (.cells #[.int .i64 0, .int .i64 0, .int .i64 0, .int .i64 0, .int .i64 0, .int .u64 0] 33 (0, 0)) ∧ ¬ own3 R vq vl (.slice (some ⟨gb, 0, none⟩) b.Js.length cap) w.heap.size from ⟨blk_new w zl, fun e => by have := (hR.lt3 _ e).2; omega⟩)
  have hb1 := Aside0.mk hb1
  have HKS := Aside0.mk (show b.Js[k].st = 1 ∧ b.Js[k].us = us by rw [hkj]; exact ⟨hjs, hju⟩)
  have HS := Aside0.mk hst
  have HPK := Aside0.mk (show pos jid b.Js x.f0 = (k : Int) by rw [← hx0]; exact hpk)
  have HC := Aside0.mk (And.intro hw hc1)
  have HL := Aside0.mk (show b.Js.length ≤ 100000 ∧ b.Ls.length ≤ 10000 by omega)
  have HG := Aside0.mk (show lk gjo b.Ls x.f0 = none ∧ c1 ∉ b.Ls.map gno from ⟨lk_none.2 (by rw [← hx0]; exact hnl), hnn⟩)
  have HJ := Aside0.mk (show lk jid b.Js x.f0 = some j ∧ j.id = x.f0 from ⟨by rw [← hx0]; exact hjk, by rw [← hx0]; exact hji⟩)
  have HF := Aside0.mk (show (fetchB b un).Js = Bk.setJ b.Js x.f0 2 (us + 1) ∧ (fetchB b un).Ls = b.Ls ++ [⟨c1, x.f0, un⟩] ∧ (fetchB b un).ct = c1 from ⟨by show Bk.setJ b.Js (fetchJ b).f0 2 (usedOf b (fetchJ b).f0 + 1) = _; rw [hus, hx0], by show b.Ls ++ [⟨b.ct + 1, (fetchJ b).f0, un⟩] = _; rw [hc1, hx0], hc1⟩)
  have HN := Aside0.mk hset
  have hkn : (k : Int) < (b.Js.length : Int) := by omega
  have hk0 : (0 : Int) ≤ (k : Int) := by omega
  have hjl2 : (b.Js.length : Int) ≤ 1000000 := by omega
  rw [hx0]
  clear h hI hR hp ha h0 hR1 hxm hj hji hjc hjs hjk hju hok hct0 hrm hle hll hL1 hnl hnn hw hst hpk hkj hset hx0 hus hc1 hct
  go_enter Try.func24, Try.ntmps24
  go_upto_region 4 with (go_at_call 45; refine htk.mono ?_; clear htk; rintro e w1 ⟨rfl, hz1⟩)
  generalize hw2 : w1.alloc (.cells #[.int .i64 x.f0, .int .i64 x.f1, .int .i64 x.f2] 77) = w2
  have hb2 : Below w1.heap.size w1 w2 := by rw [← hw2]; exact below_alloc (Below.refl _ _) _
  have hy2 : w2.heap[w1.heap.size]? = some (.cells #[.int .i64 x.f0, .int .i64 x.f1, .int .i64 x.f2] 77 (0, 0)) := by rw [← hw2]; exact blk_new _ _
  obtain ⟨LR1, hp1, _, hg1⟩ := hz1.out
  obtain ⟨vq1, h1, ha1, hm1⟩ := H.out.1.goQ H.out.2 hg1
  have hx2 := box_below (box_mv HX.out hm1) hb2
  have hyX : ¬ own3 R vq1 vl (.slice (some ⟨gb, 0, none⟩) b.Js.length cap) w1.heap.size := fun e => by have := (h1.lt3 _ e).2; omega
  have h2 := h1.step hb2
  have hfi := rfind12 h2 x.f0 (by have := HL.out; omega) k HPK.out
  have y0 := (blk_cell hy2 0).trans rfl
  have hne : w.heap.size ≠ w1.heap.size := fun e => by
    have h3 := blk_lt HX.out.1
    have h4 := hm1.fr.size
    omega
  have HQ := Aside0.mk (And.intro h2 (And.intro ha1 (And.intro ((((Mv.refl w _).below hb1.out).trans hm1).below hb2) hp1)))
  have HB := Aside0.mk (And.intro hx2 (And.intro (show w2.heap[w1.heap.size]? = _ ∧ _ from ⟨hy2, hyX⟩) hne))
  generalize w1.heap.size = gy at HB y0 ⊢
  clear hw2 hb2 hz1 hg1 hp1 h1 ha1 hm1 hx2 hyX h2 hy2 H HX hb1 hne
  go_upto_region 5 with (go_at_call 30; refine hfi.mono ?_; clear hfi; rintro e W0 ⟨rfl, hb0⟩)
  have HM := Aside0.mk (HQ.out.1.step hb0)
  have HA := Aside0.mk HQ.out.2.1
  have hm0 := Aside0.mk (HQ.out.2.2.1.below hb0)
  have HP := Aside0.mk HQ.out.2.2.2
  have HB0 := Aside0.mk (And.intro (box_below HB.out.1 hb0) (And.intro (box_below HB.out.2.1 hb0) HB.out.2.2))
  clear hb0 HQ HB y0
  generalize hn : b.Js.length = n at hkn hjl2 HM HA hm0 HB0
  have c7 : W0.cell? ⟨R, 7, none⟩ = some (.slice (some ⟨gb, 0, none⟩) n cap) := (blk_cell HM.out.blk 7).trans rfl
  have c6 : W0.cell? ⟨R, 6, none⟩ = some (.int .i64 b.tr) := (blk_cell HM.out.blk 6).trans rfl
  obtain ⟨hgR, hgl, _, _, e2, e3⟩ := HM.out.elemAt k hk
  rw [HKS.out.1] at e2
  rw [HKS.out.2] at e3
  refine start_ (n := 22) (S := fun w' => w'.cell? ⟨R, 7, none⟩ = some (.slice (some ⟨gb, 0, none⟩) n cap) ∧ w'.cell? ⟨R, 6, none⟩ = some (.int .i64 b.tr) ∧ w'.cell? ⟨gb, k * 4 + 2, none⟩ = some (.int .i64 1) ∧ w'.cell? ⟨gb, k * 4 + 3, none⟩ = some (.int .i64 us)) (ds := [21]) #[false, false, false, false, false, false, false, false, false, false, false, false, false, false, false, false, false, false, false, false, false, false] (by kernel_rfl) rfl rfl ⟨c7, c6, e2, e3⟩ (fun hHeld => ?_)
  have hb2 := below_drew1 (Below.refl W0.heap.size W0)
  have HM2 := Aside0.mk (HM.out.step hb2)
  have hB2 := Aside0.mk hb2
  generalize W0.drew = W2 at hHeld HM2 hB2 ⊢
  clear c7 c6 e2 e3 hb2 HM hgR hgl
  have kp : Aside0 (∀ w', Below W2.heap.size W2 w' → w'.cell? ⟨R, 7, none⟩ = some (.slice (some ⟨gb, 0, none⟩) n cap) ∧ w'.cell? ⟨R, 6, none⟩ = some (.int .i64 b.tr) ∧ w'.cell? ⟨gb, k * 4 + 2, none⟩ = some (.int .i64 1) ∧ w'.cell? ⟨gb, k * 4 + 3, none⟩ = some (.int .i64 us)) := ⟨fun w' hb => ⟨(hb.cell (p := ⟨R, 7, none⟩) (blk_lt HM2.out.blk)).trans hHeld.1, (hb.cell (p := ⟨R, 6, none⟩) (blk_lt HM2.out.blk)).trans hHeld.2.1, (hb.cell (p := ⟨gb, k * 4 + 2, none⟩) (HM2.out.elemAt k hk).2.1).trans hHeld.2.2.1, (hb.cell (p := ⟨gb, k * 4 + 3, none⟩) (HM2.out.elemAt k hk).2.1).trans hHeld.2.2.2⟩⟩
  have hst := Aside0.mk (rstep_run HS.out W2)
  have hfd := fld100 2 (us + 1)
  refine pure_ (i := 0) (N := some 26) (v := ?_) (a' := ?_) #[true, false, false, false, false, false, false, false, false, false, false, false, false, false, false, false, false, false, false, false, false, false] rfl rfl (by kernel_rfl) (fun _ _ _ h => h) (Or.inl ⟨by rfl, ?_⟩) ?_ ?_
  rotate_left
  · intro w'
    go_simp
    with_reducible rfl
  rotate_left
  · simp only [Act.put, List.setIfInBounds_toArray, List.set_cons_zero, List.set_cons_succ]
    rfl
  refine pure_ (i := 1) (N := some 27) (v := ?_) (a' := ?_) #[true, true, false, false, false, false, false, false, false, false, false, false, false, false, false, false, false, false, false, false, false, false] rfl rfl (by kernel_rfl) (fun _ _ _ h => h) (Or.inl ⟨by rfl, ?_⟩) ?_ ?_
  rotate_left
  · intro w'
    go_simp
    with_reducible rfl
  rotate_left
  · simp only [Act.put, List.setIfInBounds_toArray, List.set_cons_zero, List.set_cons_succ]
    rfl
  refine pure_ (i := 2) (N := some 28) (v := ?_) (a' := ?_) #[true, true, true, false, false, false, false, false, false, false, false, false, false, false, false, false, false, false, false, false, false, false] rfl rfl (by kernel_rfl) (fun _ _ _ h => h) (Or.inl ⟨by rfl, ?_⟩) ?_ ?_
  rotate_left
  · intro w'
    go_simp
    with_reducible rfl
  rotate_left
  · simp only [Act.put, List.setIfInBounds_toArray, List.set_cons_zero, List.set_cons_succ]
    rfl
  refine take_ (i := 3) (N := some 29) (v := ?_) (a' := ?_) #[true, true, true, true, false, false, false, false, false, false, false, false, false, false, false, false, false, false, false, false, false, false] rfl rfl (by kernel_rfl) (fun _ _ _ h => h) (Or.inl ⟨by rfl, ?_⟩) hHeld ?_ ?_
  rotate_left
  · rintro w' ⟨s0, s1, s2, s3⟩
    go_simp
    with_reducible rfl
  rotate_left
  · simp only [Act.put, List.setIfInBounds_toArray, List.set_cons_zero, List.set_cons_succ]
    rfl
  refine pure_ (i := 4) (N := some 30) (v := ?_) (a' := ?_) #[true, true, true, true, true, false, false, false, false, false, false, false, false, false, false, false, false, false, false, false, false, false] rfl rfl (by kernel_rfl) (fun _ _ _ h => h) (Or.inl ⟨by rfl, ?_⟩) ?_ ?_
  rotate_left
  · intro w'
    go_simp
    with_reducible rfl
  rotate_left
  · simp only [Act.put, List.setIfInBounds_toArray, List.set_cons_zero, List.set_cons_succ]
    rfl
  refine pure_ (i := 5) (N := some 31) (v := ?_) (a' := ?_) #[true, true, true, true, true, true, false, false, false, false, false, false, false, false, false, false, false, false, false, false, false, false] rfl rfl (by kernel_rfl) (fun _ _ _ h => h) (Or.inl ⟨by rfl, ?_⟩) ?_ ?_
  rotate_left
  · intro w'
    go_simp
    with_reducible rfl
  rotate_left
  · simp only [Act.put, List.setIfInBounds_toArray, List.set_cons_zero, List.set_cons_succ]
    rfl
  refine pure_ (i := 6) (N := some 32) (v := ?_) (a' := ?_) #[true, true, true, true, true, true, true, false, false, false, false, false, false, false, false, false, false, false, false, false, false, false] rfl rfl (by kernel_rfl) (fun _ _ _ h => h) (Or.inl ⟨by rfl, ?_⟩) ?_ ?_
  rotate_left
  · intro w'
    go_simp
    with_reducible rfl
  rotate_left
  · simp only [Act.put, List.setIfInBounds_toArray, List.set_cons_zero, List.set_cons_succ]
    rfl
  refine pure_ (i := 7) (N := some 33) (v := ?_) (a' := ?_) #[true, true, true, true, true, true, true, true, false, false, false, false, false, false, false, false, false, false, false, false, false, false] rfl rfl (by kernel_rfl) (fun _ _ _ h => h) (Or.inl ⟨by rfl, ?_⟩) ?_ ?_
  rotate_left
  · intro w'
    go_simp
    with_reducible rfl
  rotate_left
  · simp only [Act.put, List.setIfInBounds_toArray, List.set_cons_zero, List.set_cons_succ]
    rfl
  refine take_ (i := 8) (N := some 34) (v := ?_) (a' := ?_) #[true, true, true, true, true, true, true, true, true, false, false, false, false, false, false, false, false, false, false, false, false, false] rfl rfl (by kernel_rfl) (fun _ _ _ h => h) (Or.inl ⟨by rfl, ?_⟩) hHeld ?_ ?_
  rotate_left
  · rintro w' ⟨s0, s1, s2, s3⟩
    go_simp
    with_reducible rfl
  rotate_left
  · simp only [Act.put, List.setIfInBounds_toArray, List.set_cons_zero, List.set_cons_succ]
    rfl
  refine pure_ (i := 9) (N := some 35) (v := ?_) (a' := ?_) #[true, true, true, true, true, true, true, true, true, true, false, false, false, false, false, false, false, false, false, false, false, false] rfl rfl (by kernel_rfl) (fun _ _ _ h => h) (Or.inl ⟨by rfl, ?_⟩) ?_ ?_
  rotate_left
  · intro w'
    go_simp
    with_reducible rfl
  rotate_left
  · simp only [Act.put, List.setIfInBounds_toArray, List.set_cons_zero, List.set_cons_succ]
    rfl
  refine pure_ (i := 10) (N := some 36) (v := ?_) (a' := ?_) #[true, true, true, true, true, true, true, true, true, true, true, false, false, false, false, false, false, false, false, false, false, false] rfl rfl (by kernel_rfl) (fun _ _ _ h => h) (Or.inl ⟨by rfl, ?_⟩) ?_ ?_
  rotate_left
  · intro w'
    go_simp
    with_reducible rfl
  rotate_left
  · simp only [Act.put, List.setIfInBounds_toArray, List.set_cons_zero, List.set_cons_succ]
    rfl
  refine pure_ (i := 11) (N := some 37) (v := ?_) (a' := ?_) #[true, true, true, true, true, true, true, true, true, true, true, true, false, false, false, false, false, false, false, false, false, false] rfl rfl (by kernel_rfl) (fun _ _ _ h => h) (Or.inl ⟨by rfl, ?_⟩) ?_ ?_
  rotate_left
  · intro w'
    go_simp
    with_reducible rfl
  rotate_left
  · simp only [Act.put, List.setIfInBounds_toArray, List.set_cons_zero, List.set_cons_succ]
    rfl
  refine take_ (i := 12) (N := some 38) (v := ?_) (a' := ?_) #[true, true, true, true, true, true, true, true, true, true, true, true, true, false, false, false, false, false, false, false, false, false] rfl rfl (by kernel_rfl) (fun _ _ _ h => h) (Or.inl ⟨by rfl, ?_⟩) hHeld ?_ ?_
  rotate_left
  · rintro w' ⟨s0, s1, s2, s3⟩
    go_simp
    with_reducible rfl
  rotate_left
  · simp only [Act.put, List.setIfInBounds_toArray, List.set_cons_zero, List.set_cons_succ]
    rfl
  refine pure_ (i := 13) (N := some 39) (v := ?_) (a' := ?_) #[true, true, true, true, true, true, true, true, true, true, true, true, true, true, false, false, false, false, false, false, false, false] rfl rfl (by kernel_rfl) (fun _ _ _ h => h) (Or.inl ⟨by rfl, ?_⟩) ?_ ?_
  rotate_left
  · intro w'
    go_simp
    with_reducible rfl
  rotate_left
  · simp only [Act.put, List.setIfInBounds_toArray, List.set_cons_zero, List.set_cons_succ]
    rfl
  refine pure_ (i := 14) (N := some 40) (v := ?_) (a' := ?_) #[true, true, true, true, true, true, true, true, true, true, true, true, true, true, true, false, false, false, false, false, false, false] rfl rfl (by kernel_rfl) (fun _ _ _ h => h) (Or.inl ⟨by rfl, ?_⟩) ?_ ?_
  rotate_left
  · intro w'
    go_simp
    with_reducible rfl
  rotate_left
  · simp only [Act.put, List.setIfInBounds_toArray, List.set_cons_zero, List.set_cons_succ]
    rfl
  refine pure_ (i := 15) (N := some 41) (v := ?_) (a' := ?_) #[true, true, true, true, true, true, true, true, true, true, true, true, true, true, true, true, false, false, false, false, false, false] rfl rfl (by kernel_rfl) (fun _ _ _ h => h) (Or.inl ⟨by rfl, ?_⟩) ?_ ?_
  rotate_left
  · intro w'
    go_simp
    with_reducible rfl
  rotate_left
  · simp only [Act.put, List.setIfInBounds_toArray, List.set_cons_zero, List.set_cons_succ]
    rfl
  refine take_ (i := 16) (N := some 42) (v := ?_) (a' := ?_) #[true, true, true, true, true, true, true, true, true, true, true, true, true, true, true, true, true, false, false, false, false, false] rfl rfl (by kernel_rfl) (fun _ _ _ h => h) (Or.inl ⟨by rfl, ?_⟩) hHeld ?_ ?_
  rotate_left
  · rintro w' ⟨s0, s1, s2, s3⟩
    go_simp
    with_reducible rfl
  rotate_left
  · simp only [Act.put, List.setIfInBounds_toArray, List.set_cons_zero, List.set_cons_succ]
    rfl
  refine one_ (i := 17) (N := some 43) #[true, true, true, true, true, true, true, true, true, true, true, true, true, true, true, true, true, true, false, false, false, false] rfl rfl (by kernel_rfl) (by decide) (fun K hK => ?_)
  refine call_ 46 #[.int .i64 b.tr, .agg #[.int .i64 1, .int .i64 us], .int .i64 1] (by rfl) rfl (by go_simp) ?_
  refine hst.out.mono ?_
  rintro e w4 ⟨rfl, hb4⟩
  refine ⟨_, rfl, ?_⟩
  have hS4 := kp.out w4 hb4
  refine hK.out _ _ hS4 (fun hHeld => ?_)
  clear hK K hHeld
  have hHeld := hS4
  clear hS4
  refine norm_ (a' := ?_) ?_ ?_
  rotate_left
  · show Act.put _ (some 43) _ = _
    simp only [Act.put, List.setIfInBounds_toArray, List.set_cons_zero, List.set_cons_succ]
    rfl
  refine pure_ (i := 18) (N := some 44) (v := ?_) (a' := ?_) #[true, true, true, true, true, true, true, true, true, true, true, true, true, true, true, true, true, true, true, false, false, false] rfl rfl (by kernel_rfl) (fun _ _ _ h => h) (Or.inl ⟨by rfl, ?_⟩) ?_ ?_
  rotate_left
  · intro w'
    go_simp
    with_reducible rfl
  rotate_left
  · simp only [Act.put, List.setIfInBounds_toArray, List.set_cons_zero, List.set_cons_succ]
    rfl
  refine pure_ (i := 19) (N := some 45) (v := ?_) (a' := ?_) #[true, true, true, true, true, true, true, true, true, true, true, true, true, true, true, true, true, true, true, true, false, false] rfl rfl (by kernel_rfl) (fun _ _ _ h => h) (Or.inl ⟨by rfl, ?_⟩) ?_ ?_
  rotate_left
  · intro w'
    go_simp
    with_reducible rfl
  rotate_left
  · simp only [Act.put, List.setIfInBounds_toArray, List.set_cons_zero, List.set_cons_succ]
    rfl
  refine pure_ (i := 20) (N := some 46) (v := ?_) (a' := ?_) #[true, true, true, true, true, true, true, true, true, true, true, true, true, true, true, true, true, true, true, true, true, false] rfl rfl (by kernel_rfl) (fun _ _ _ h => h) (Or.inl ⟨by rfl, ?_⟩) ?_ ?_
  rotate_left
  · intro w'
    go_simp
    with_reducible rfl
  rotate_left
  · simp only [Act.put, List.setIfInBounds_toArray, List.set_cons_zero, List.set_cons_succ]
    rfl
  have H4 := Aside0.mk (HM2.out.step hb4)
  have hb4 := Aside0.mk (below_step hB2.out hb4)
  have f2 := (H4.out.elemAt k hk).2.2.1 (k * 4 + 2)
  have f3 := (H4.out.elemAt k hk).2.2.1 (k * 4 + 3)
  have s2 := hHeld.2.2.1
  have s3 := hHeld.2.2.2
  clear hHeld HM2 hst hfd
  refine last_ (i := 21) (N := none) #[true, true, true, true, true, true, true, true, true, true, true, true, true, true, true, true, true, true, true, true, true, true] rfl rfl (by kernel_rfl) (by decide) (fun K hK => ?_)
  refine skip_ (w1 := ?_) (by rfl) rfl ?_ ?_
  rotate_left
  · go_simp
    rfl
  refine hK.out _ _ ?_
  clear hK K
  refine done_ (by kernel_rfl) ?_
  obtain ⟨H6, hF6⟩ := H4.out.setJ HA.out k hk 2 (us + 1)
  have H6 := Aside0.mk H6
  have hM6 := Aside0.mk (((Mv.refl W0 (own3 R vq1 vl (.slice (some ⟨gb, 0, none⟩) n cap))).below hb4.out).trans (Mv.set hF6))
  clear s2 s3 f2 f3 kp H4 hb4 hF6
  generalize (w4.setCell ⟨gb, k * 4 + 2, none⟩ (.int .i64 2)).setCell ⟨gb, k * 4 + 3, none⟩ (.int .i64 (us + 1)) = w6 at H6 hM6 ⊢
  obtain ⟨hx6, hy6, hne⟩ : _ ∧ _ ∧ _ := And.intro (box_mv HB0.out.1 hM6.out) (And.intro (box_mv HB0.out.2.1 hM6.out) HB0.out.2.2)
  have HB6 := Aside0.mk (And.intro hx6 (And.intro hy6 hne))
  have H6' := Aside0.mk (show RB N w6 R vq1 vl (.slice (some ⟨gb, 0, none⟩) n cap) b.ag b.rm c1 b.ct b.tr LR1 b.Ls (Bk.setJ b.Js x.f0 2 (us + 1)) by rw [← HN.out]; exact H6.out)
  have hm6 := Aside0.mk (hm0.out.trans hM6.out)
  clear hx6 hy6 hne HB0 H6 hM6 hm0
  go_upto_region 6 with (fail)
  have y0 : w6.cell? ⟨gy, 0, none⟩ = some (.int .i64 x.f0) := (blk_cell HB6.out.2.1.1 0).trans rfl
  have hdr := Aside0.mk (below_drew1 (Below.refl w6.heap.size w6))
  have hgr := rgrant (H6'.out.step hdr.out) x.f0 un HG.out.1 (by have := HL.out.2; omega) c1 HC.out.1
  have kp : Aside0 (∀ w9 Ls9, LGo N w6.drew R vq1 (.slice (some ⟨gb, 0, none⟩) n cap) w9 b.ag b.rm c1 c1 b.tr LR1 Ls9 (Bk.setJ b.Js x.f0 2 (us + 1)) → w9.cell? ⟨gy, 0, none⟩ = some (.int .i64 x.f0)) := ⟨fun w9 Ls9 hg => by
    obtain ⟨v', _, hF, _⟩ := hg
    exact (hF.cell (show w6.drew.cell? ⟨gy, 0, none⟩ = _ from y0) (fun e => HB6.out.2.1.2 (.inl e)))⟩
  go_region_held3 (fun w' => w'.cell? ⟨gy, 0, none⟩ = some (.int .i64 x.f0)) (first | exact kp.out _ _ hz9.out | go_keep) (first
    | (go_at_call 47; refine hgr.mono ?_; clear hgr; rintro e w9 ⟨rfl, hz9⟩))
  obtain ⟨vl9, h9, ha9, hm9⟩ := (H6'.out.step hdr.out).goL HA.out hz9.out
  have hx9 := box_mv (box_below HB6.out.1 hdr.out) hm9
  have hgl : lk gno (b.Ls ++ [⟨c1, x.f0, un⟩]) c1 = some ⟨c1, x.f0, un⟩ := by
    rw [lk_snoc (κ := gno) b.Ls ⟨c1, x.f0, un⟩ c1 HG.out.2]
    rw [if_pos rfl]
  have hjl : lk jid (Bk.setJ b.Js x.f0 2 (us + 1)) x.f0 = some ⟨j.id, j.cls, 2, us + 1⟩ := by
    rw [lk_setJ, HJ.out.1]
    show some (if j.id = x.f0 then (⟨j.id, j.cls, 2, us + 1⟩ : Jb) else j) = _
    rw [if_pos HJ.out.2]
  have hls := rlease_yes h9 c1 (by rw [List.length_append]; have := HL.out; simp; omega) (by rw [setJ_len]; exact HL.out.1) ⟨c1, x.f0, un⟩ hgl ⟨j.id, j.cls, 2, us + 1⟩ hjl (us + 1) rfl
  have H9 := Aside0.mk (show RI N w9 R (own3 R vq1 vl9 (.slice (some ⟨gb, 0, none⟩) n cap)) (fetchB b un) from ⟨vq1, vl9, _, LR1, by rw [HF.out.1, HF.out.2.1, HF.out.2.2]; exact h9, HP.out, ha9, rfl⟩)
  have hm9' := Aside0.mk ((hm6.out.below hdr.out).trans hm9)
  have hx9 := Aside0.mk hx9
  clear h9 ha9 hm9 hz9 kp hgl hjl y0
  go_upto_region 7 with (fail)
  go_wp2_with (go_at_call 48; refine hls.mono ?_; clear hls; rintro e w10 ⟨rfl, hb10⟩; have hx10 := box_below hx9.out hb10; have s0 := (blk_cell hx10.1 0).trans rfl; have s1 := (blk_cell hx10.1 1).trans rfl; have s2 := (blk_cell hx10.1 2).trans rfl; have s3 := (blk_cell hx10.1 3).trans rfl; have s4 := (blk_cell hx10.1 4).trans rfl; have s5 := (blk_cell hx10.1 5).trans rfl; have f0 := blk_frozen hx10.1 0; have f1 := blk_frozen hx10.1 1; have f2 := blk_frozen hx10.1 2; have f3 := blk_frozen hx10.1 3; have f4 := blk_frozen hx10.1 4; have f5 := blk_frozen hx10.1 5; have hx10 := Aside0.mk hx10; have H10 := Aside0.mk (H9.out.away (Fr.of_below (F := fun _ => False) hb10) (fun _ _ h => h)); have hm10 := Aside0.mk (hm9'.out.below hb10); clear hb10)
  have hF := fr_set6 w10 w.heap.size (.int .i64 c1) (.int .i64 x.f0) (.int .i64 0) (.int .i64 0) (.int .i64 (us + 1)) (.int .u64 un)
  exact rfetch_ret (g := w.heap.size) rfl rfl (blk_put (blk_put (blk_put (blk_put (blk_put (blk_put hx10.out.1 0 _ rfl) 1 _ rfl) 2 _ rfl) 3 _ rfl) 4 _ rfl) 5 _ rfl) ⟨rfl, ⟨H10.out.fin hm10.out (Nat.le_refl _) hx10.out.2 hF⟩⟩
end
end Go.Proofs.Ytfkebbkfmchnaaa.Bk
