/- slices.DeleteFunc by the ring's closure, of a row that is the call's own. Conditions: the row is the call's own; the closure's number lies in a block of its own. -/
import Derived.Test.YtedolmjealgeoaaIns
import Derived.Test.YtedolmjealgeoaaIdx
set_option linter.unusedVariables false
namespace Go.Proofs.Ytedolmjealgeoaa.Rg
open Go.Shelf Go.Lib Go.RowKit Go.Proofs.Ytedolmjealgeoaa.PBase Go.Proofs.Ytedolmjealgeoaa.Cat Go.Proofs.YtedolmjealgeoaaW.PrintWords Go.Proofs.YtedolmjealgeoaaW.PrintLast Go.Proofs.YtedolmjealgeoaaW.PrintMore
theorem run_clear2 (w : World) (ty : TypeId) (g o n c : Nat) (cur : Array Value) (t : TypeId) (hn : 0 < n) (hg : w.heap[g]? = some (.cells cur t (0, 0))) (hfit : o + n * 2 ≤ cur.size) :
    ∃ zs : List Value, zs.length = n * 2 ∧ (Builtin.clear_ #[33] ty #[.slice (some ⟨g, o, none⟩) n c]).run Try.prog w = .ok (.tuple #[]) (w.setRow g (cur.toList.take o ++ zs ++ cur.toList.drop (o + zs.length)).toArray) := by
  obtain ⟨i0, hi, hzz⟩ := Option.map_eq_some_iff.1 info24
  simp only [Prod.mk.injEq] at hzz
  obtain ⟨hz0, hz1, hz2⟩ := hzz
  have hzl : ((Builtin.zeroCells (Value.agg #[.int .i64 0, .int .u64 0]).cells n).toList).length = n * 2 := by simp [Builtin.zeroCells, Value.cells]
  refine ⟨(Builtin.zeroCells (Value.agg #[.int .i64 0, .int .u64 0]).cells n).toList, hzl, ?_⟩
  have h1 : ∀ v ∈ (Builtin.zeroCells (Value.agg #[.int .i64 0, .int .u64 0]).cells n).toList, v.oneCell' = true := by
    intro v hv
    simp [Builtin.zeroCells, Value.cells] at hv
    obtain ⟨a, _, rfl⟩ := hv
    rcases Nat.mod_two_eq_zero_or_one a with e | e <;> rw [e] <;> rfl
  have hst := run_storeCells_at Try.prog g o t _ 0 cur w hg (by rw [hzl]; simpa using hfit) h1
  obtain ⟨n, rfl⟩ : ∃ m, n = m + 1 := ⟨n - 1, by omega⟩
  simp [Builtin.clear_, run_underlying Try.underlying33, zeroValue, typeInfo, hi, hz0, hst]
theorem set_R {W : World} {base g n cap : Nat} {ok : Nat → Prop} {L : List S24} (h : Kd.R k24 24 W base ok (.slice (some ⟨g, 0, none⟩) n cap) L) {i : Nat} (hi : i < L.length) (d : S24) :
    Kd.R k24 24 (W.setCells g (i * 2) (enc d)) base (fun _ => True) (.slice (some ⟨g, 0, none⟩) n cap) (L.set i d) ∧ W.grownBy (W.setCells g (i * 2) (enc d)) (some g) := by
  have hR := Kd.R_mono h (ok' := fun _ => True) (fun _ _ => trivial)
  have hn := (Kd.R_reads' hR).1
  obtain ⟨ad, c, e1, hcl, hK, hc⟩ := Kd.C_get (Kd.R_reads' hR).2.2 z24 (i : Int) (by omega) (by omega)
  injection e1 with e1
  subst e1
  have hcl' : c.length = 2 := hcl
  obtain ⟨h1, g1⟩ := Kd.R_seg (okp := fun _ => False) hR (i : Int) (by omega) (by omega) (c := c) (j := 0) (seg := enc d) (x' := d) hcl (fun j u hu => by have := hc j u hu; rwa [Addr.add_lit, Nat.zero_add] at this) (by simp [enc, Kd.iso, Kd.pair, Kd.int, Kd.scalar, k24])
    (by rw [List.take_zero, List.nil_append, List.drop_eq_nil_of_le (by simp [enc, hcl']), List.append_nil]; exact k24_mkM _ _ _ _) (fun _ h => h.elim)
  have eW : (W.setCells g ((i : Int).toNat * k24.sz + 0) (enc d)) = W.setCells g (i * 2) (enc d) := by
    rw [Int.toNat_natCast]
    rfl
  rw [eW, Int.toNat_natCast] at h1
  rw [eW] at g1
  exact ⟨h1, g1⟩
theorem idx_spec (id : Int) : ∀ (l : List S24) (i : Nat), (Lib.idxByFrom (fun _ y : S24 => y.f0 == id) default l i = -1 ∧ ∀ y ∈ l, (y.f0 == id) = false) ∨ ∃ k, ∃ hk : k < l.length, Lib.idxByFrom (fun _ y : S24 => y.f0 == id) default l i = ((i + k : Nat) : Int) ∧ (l[k].f0 == id) = true ∧ ∀ y ∈ l.take k, (y.f0 == id) = false
  | [], _ => .inl ⟨rfl, fun y hy => absurd hy List.not_mem_nil⟩
  | y :: r, i => by
    cases h : (y.f0 == id) with
    | true => exact .inr ⟨0, by simp, by simp [Lib.idxByFrom, h], by simpa using h, fun y hy => absurd hy (by simp)⟩
    | false =>
      have e0 : Lib.idxByFrom (fun _ y : S24 => y.f0 == id) default (y :: r) i = Lib.idxByFrom (fun _ y : S24 => y.f0 == id) default r (i + 1) := by simp [Lib.idxByFrom, h]
      rw [e0]
      rcases idx_spec id r (i + 1) with ⟨e, ha⟩ | ⟨k, hk, e, ht, ha⟩
      · refine .inl ⟨e, fun z hz => ?_⟩
        rcases List.mem_cons.1 hz with rfl | hz
        · exact h
        · exact ha z hz
      · refine .inr ⟨k + 1, by simpa using hk, by rw [e]; congr 1; omega, by simpa using ht, fun z hz => ?_⟩
        rw [List.take_succ_cons] at hz
        rcases List.mem_cons.1 hz with rfl | hz
        · exact h
        · exact ha z hz
theorem clo_calls (id : Int) (B : Nat) (W : World) (hB : B < W.heap.size) (hcell : W.cell? ⟨B, 0, none⟩ = some (.int .i64 id)) (x : S24) (r : Bool) (hr : (x.f0 == id) = r) : Calls Try.prog 19 #[.agg #[.int .i64 x.f0, .int .u64 x.f1], .pointer (some ⟨B, 0, none⟩)] W fun e w' => e = .returned (.bool r) ∧ Below W.heap.size W w' := by
  subst hr
  have h := Laid.pred19 id B W hB hcell W x (Below.refl _ _)
  exact h
/-- What the loop keeps. -/
structure DI (id : Int) (xs M : List S24) (i j : Nat) : Prop where
  lt : i < j
  le : j ≤ xs.length
  len : M.length = xs.length
  lo : M.take i = (xs.take j).filter (fun y => !(y.f0 == id))
  hi : M.drop j = xs.drop j
theorem DI.start {id : Int} {xs : List S24} {k : Nat} (hk : k < xs.length) (ht : (xs[k].f0 == id) = true) (ha : ∀ y ∈ xs.take k, (y.f0 == id) = false) : DI id xs xs k (k + 1) := by
  refine ⟨by omega, by omega, rfl, ?_, rfl⟩
  rw [List.take_succ_eq_append_getElem hk, List.filter_append]
  have h1 : (xs.take k).filter (fun y => !(y.f0 == id)) = xs.take k := List.filter_eq_self.2 (fun y hy => by rw [ha y hy]; rfl)
  rw [h1, List.filter_cons_of_neg (by rw [ht]; decide)]
  simp
theorem DI.get {id : Int} {xs M : List S24} {i j : Nat} (h : DI id xs M i j) (hj : j < xs.length) : M[j]'(by rw [h.len]; exact hj) = xs[j] := by
  have h1 : (M.drop j)[0]? = (xs.drop j)[0]? := by rw [h.hi]
  rw [List.getElem?_drop, List.getElem?_drop, Nat.add_zero, List.getElem?_eq_getElem (by rw [h.len]; exact hj), List.getElem?_eq_getElem hj] at h1
  exact Option.some.inj h1
theorem DI.skip {id : Int} {xs M : List S24} {i j : Nat} (h : DI id xs M i j) (hj : j < xs.length) (hx : (xs[j].f0 == id) = true) : DI id xs M i (j + 1) := by
  refine ⟨by have := h.lt; omega, by omega, h.len, ?_, ?_⟩
  · rw [List.take_succ_eq_append_getElem hj, List.filter_append, ← h.lo, List.filter_cons_of_neg (by rw [hx]; decide)]
    simp
  · rw [← List.drop_drop, ← List.drop_drop, h.hi]
theorem DI.keep {id : Int} {xs M : List S24} {i j : Nat} (h : DI id xs M i j) (hj : j < xs.length) (hx : (xs[j].f0 == id) = false) : DI id xs (M.set i xs[j]) (i + 1) (j + 1) := by
  have hij := h.lt
  have hl := h.len
  refine ⟨by omega, by omega, by rw [List.length_set, hl], ?_, ?_⟩
  · rw [List.take_succ_eq_append_getElem hj, List.filter_append, ← h.lo, List.filter_cons_of_pos (by rw [hx]; rfl), List.filter_nil]
    rw [List.take_succ_eq_append_getElem (by rw [List.length_set]; omega), List.getElem_set_self, List.take_set, List.set_eq_of_length_le (by rw [List.length_take]; omega)]
  · rw [List.drop_set_of_lt (by omega), ← List.drop_drop, ← List.drop_drop, h.hi]
theorem DI.end {id : Int} {xs M : List S24} {i : Nat} (h : DI id xs M i xs.length) : M.take i = xs.filter (fun y => !(y.f0 == id)) := by
  rw [h.lo, List.take_length]
theorem own_cells {w : World} {base g n cap : Nat} {ok : Nat → Prop} {L : List S24} (h : Kd.R k24 24 w base ok (.slice (some ⟨g, 0, none⟩) n cap) L) {i : Nat} (hi : i < L.length) : ∃ cur, w.heap[g]? = some (.cells cur 24 (0, 0)) ∧ w.cell? ⟨g, i * 2, none⟩ = some (.int .i64 (rd_T24 L i).f0) ∧ w.cell? ⟨g, i * 2 + 1, none⟩ = some (.int .u64 (rd_T24 L i).f1) := by
  have hown := own_of_R h
  rcases hown.2 with ⟨h0, _⟩ | ⟨g', cap', cur, he, _, hg, _⟩
  · cases h0
  · injection he with he1 he2 he3
    injection he1 with he1
    injection he1 with he1
    subst he1
    obtain ⟨ad, e1, hx0, hx1⟩ := at_T24 (Kd.R_reads' h).2.2 (i : Int) (by omega) (by have := (Kd.R_reads' h).1; omega)
    injection e1 with e1
    subst e1
    rw [Int.toNat_natCast, Addr.add_lit, Nat.zero_add] at hx0 hx1
    exact ⟨cur, hg, hx0, hx1⟩
set_option maxHeartbeats 4000000 in
set_option maxRecDepth 100000 in
theorem delete_calls {W : World} {base : Nat} {ok : Nat → Prop} {v : Value} {xs : List S24} (h : Kd.R k24 24 W base ok v xs) (id : Int) (B : Nat) (hB : W.heap[B]? = some (.cells #[.int .i64 id] 3 (0, 0))) (hl : xs.length ≤ 1000000) :
    Calls Try.prog 18 #[v, .func (.func 19) #[] #[.pointer (some ⟨B, 0, none⟩)]] W fun e w' => ∃ v1, e = .returned v1 ∧ Kd.R k24 24 w' base (fun _ => True) v1 (xs.filter (fun y => !(y.f0 == id))) ∧ Fr (fun k => v.ownBlock = some k) W w' ∧ v1.ownBlock = v.ownBlock := by
  have hcB : W.cell? ⟨B, 0, none⟩ = some (.int .i64 id) := (blk_cell hB 0).trans rfl
  have hBl := blk_lt hB
  obtain ⟨A, c, e0, hc, hC⟩ := Kd.R_reads h
  have hI := index_calls A c xs id B W hC hBl hcB
  rw [← e0] at hI
  rcases idx_spec id xs 0 with ⟨e1, hall⟩ | ⟨k, hk, e1, ht, hall⟩
  · have e2 : Lib.idxBy (fun _ y : S24 => y.f0 == id) xs default = -1 := e1
    rw [e2] at hI
    have hf : xs.filter (fun y => !(y.f0 == id)) = xs := List.filter_eq_self.2 (fun y hy => by rw [hall y hy]; rfl)
    rw [hf]
    have H := Aside0.mk h
    clear h hf hall e1 e2 hC
    subst e0
    go_enter Try.func18, Try.ntmps18
    go_wp2_with (go_at_call 29; refine hI.mono ?_; rintro e w1 ⟨rfl, hb1⟩)
    go_ret
    exact ⟨_, rfl, Kd.R_mono (Kd.R_below H.out hb1) (fun _ _ => trivial), Fr.of_below hb1, rfl⟩
  · have e2 : Lib.idxBy (fun _ y : S24 => y.f0 == id) xs default = (k : Int) := by unfold Lib.idxBy; rw [e1, Nat.zero_add]
    rw [e2] at hI
    have hown := own_of_R h
    rcases hown.2 with ⟨_, h0⟩ | ⟨g, cap, cur0, rfl, hbg, hg, hnc, hcm, hcs, hcur⟩
    · omega
    have hgB : g ≠ B := fun e => by rw [e, hB] at hg; cases hg
    have hne1 : ((k : Int) == -1) = false := beq_eq_false_iff_ne.2 (by omega)
    have hD := Aside0.mk (DI.start hk ht hall)
    have hcap : cap ≤ 9223372036854775807 := by unfold maxLen at hcm; omega
    have H := Aside0.mk (Kd.R_mono h (ok' := fun _ => True) (fun _ _ => trivial))
    have HB := Aside0.mk hB
    clear h hall ht e1 e2 hown hg hcs hcur e0 hC hB hcB
    go_enter Try.func18, Try.ntmps18
    go_wp2_with (go_at_call 29; refine hI.mono ?_; rintro e w1 ⟨rfl, hb1⟩)
    clear hI
    go_loopg [5, 6] xs.length (fun gg v5 v6 wr => ∃ (i j : Nat) (M : List S24), v5 = .int .i64 i ∧ v6 = .int .i64 j ∧ i < j ∧ j ≤ xs.length ∧ xs.length - j ≤ gg ∧ Aside0 (DI id xs M i j) ∧ Aside0 (Kd.R k24 24 wr base (fun _ => True) (.slice (some ⟨g, 0, none⟩) xs.length cap) M) ∧ Aside0 (Fr (fun k => k = g) W wr))
    case atStart => exact ⟨k, k + 1, xs, rfl, by go_num, by omega, by omega, by omega, hD, ⟨Kd.R_below H.out hb1⟩, ⟨Fr.of_below hb1⟩⟩
    case round =>
      obtain ⟨i, j, M, rfl, rfl, hij, hjl, hgg, hDI, hR, hF⟩ := hrel
      clear hD H hb1
      by_cases hlt : j < xs.length
      · have hltz : (j : Int) < (xs.length : Int) := by omega
        have hML : M.length = xs.length := hDI.out.len
        have hCM := (Kd.R_reads' hR.out).2.2
        obtain ⟨ad, e1, hx0, hx1⟩ := at_T24 hCM (j : Int) (by omega) (by omega)
        injection e1 with e1
        subst e1
        rw [Int.toNat_natCast, Addr.add_lit, Nat.zero_add] at hx0 hx1
        have hrd : rd_T24 M (j : Int) = xs[j] := by rw [rd_nat M j (by omega), hDI.out.get hlt]
        rw [hrd] at hx0 hx1
        clear hrd hCM
        obtain ⟨x, hx⟩ : ∃ x, xs[j] = x := ⟨_, rfl⟩
        rw [hx] at hx0 hx1
        have hX := Aside0.mk hx
        clear hx
        have hcW : Aside0 (∀ w', Below wr.heap.size wr w' → B < w'.heap.size ∧ w'.cell? ⟨B, 0, none⟩ = some (.int .i64 id)) := ⟨fun w' hb => by
          have h1 := (hF.out.blk B hBl (fun e => hgB e.symm)).trans HB.out
          have h2 := blk_below h1 hb
          exact ⟨blk_lt h2, (blk_cell h2 0).trans rfl⟩⟩
        have hbx := Aside0.mk (below_alloc (Below.refl wr.heap.size wr) (.cells #[.int .i64 x.f0, .int .u64 x.f1] 24))
        cases hq : (x.f0 == id) with
        | true =>
          go_wp2_with (go_at_call 19; refine (clo_calls id B _ (hcW.out _ hbx.out).1 (hcW.out _ hbx.out).2 x true hq).mono ?_; rintro e w2 ⟨rfl, hb2⟩)
          go_roundg (xs.length - (j + 1))
          case measure => omega
          case rel => exact ⟨i, j + 1, M, rfl, by go_num, by omega, by omega, Nat.le_refl _, ⟨hDI.out.skip hlt (by rw [hX.out]; exact hq)⟩, ⟨Kd.R_below hR.out (below_step hbx.out hb2)⟩, ⟨hF.out.trans (Fr.of_below (below_step hbx.out hb2))⟩⟩
        | false =>
          have hi0 : (i : Int) < (xs.length : Int) := by omega
          go_wp2_with (go_at_call 19; refine (clo_calls id B _ (hcW.out _ hbx.out).1 (hcW.out _ hbx.out).2 x false hq).mono ?_; rintro e w2 ⟨rfl, hb2⟩; have hbox := Aside0.mk (blk_below (blk_new wr (.cells #[.int .i64 x.f0, .int .u64 x.f1] 24)) hb2); have y0 := (blk_cell hbox.out 0).trans rfl; have y1 := (blk_cell hbox.out 1).trans rfl; have hb3 := Aside0.mk (below_step hbx.out hb2); obtain ⟨cur2, hg2, z0, z1⟩ := own_cells (Kd.R_below hR.out hb3.out) (show i < M.length by omega); have f0 := blk_frozen hg2 (i * 2); have f1 := blk_frozen hg2 (i * 2 + 1); replace hg2 := Aside0.mk hg2)
          have hset := set_R (Kd.R_below hR.out hb3.out) (show i < M.length by omega) x
          have hF2 := hF.out.trans (Fr.of_below hb3.out)
          have hDK := hDI.out.keep hlt (by rw [hX.out]; exact hq)
          rw [hX.out] at hDK
          go_roundg (xs.length - (j + 1))
          case measure => omega
          case rel => exact ⟨i + 1, j + 1, M.set i x, by go_num, by go_num, by omega, by omega, Nat.le_refl _, ⟨hDK⟩, ⟨hset.1⟩, ⟨hF2.trans (Fr.of_grown hset.2 (fun k e => (Option.some.inj e).symm))⟩⟩
      · obtain rfl : j = xs.length := by omega
        have hltz : ¬ (xs.length : Int) < (xs.length : Int) := by omega
        have hML : M.length = xs.length := hDI.out.len
        have hown := own_of_R hR.out
        rcases hown.2 with ⟨h0, _⟩ | ⟨g', cap', cur, he, hbg', hg, hnc', hcm', hcs, hcur⟩
        · cases h0
        injection he with he1 he2 he3
        injection he1 with he1
        injection he1 with he1
        subst he1 he3
        clear he2
        obtain ⟨zs, hzl, hcl⟩ := run_clear2 wr 0 g (i * 2) (xs.length - i) (cap - i) cur 24 (by omega) hg (by omega)
        have hb1 : (i : Int) ≤ (xs.length : Int) := by omega
        have hb2 : i ≤ xs.length := by omega
        have hb4 : ¬ (cap = i) := by omega
        have hFin := Aside0.mk (And.intro hg (And.intro hcs hcur))
        clear hown hg hcs hcur
        have hb5 : i ≤ cap := by omega
        replace hzl := Aside0.mk hzl
        replace hML := Aside0.mk hML
        replace hbg' := Aside0.mk hbg'
        replace hnc' := Aside0.mk hnc'
        replace hcm' := Aside0.mk hcm'
        go_wp2
        go_ret
        replace hzl := hzl.out
        replace hML := hML.out
        replace hbg' := hbg'.out
        replace hnc' := hnc'.out
        replace hcm' := hcm'.out
        refine ⟨_, rfl, ?_, (hF.out.weak (fun k e => by rw [e]; rfl)).trans ((Fr.setRow wr g _).weak (fun k e => by rw [e]; rfl)), rfl⟩
        have hll : (M.take i).length = i := by rw [List.length_take]; omega
        rw [← hDI.out.end]
        show Kd.R k24 24 _ base (fun _ => True) (.slice (some ⟨g, 0, none⟩) i cap) _
        obtain ⟨h1, h2, h3⟩ := hFin.out
        have h4 := R_of_own (w := wr.setRow g (cur.toList.take (i * 2) ++ zs ++ cur.toList.drop (i * 2 + zs.length)).toArray) (base := base) (v := .slice (some ⟨g, 0, none⟩) (M.take i).length cap) (xs := M.take i) ⟨flat_len _, .inr ⟨g, cap, _, rfl, hbg', setRow_heap wr g cur _ 24 (0, 0) h1, by omega, hcm', ?_, ?_⟩⟩
        · rw [hll, List.append_assoc] at h4
          exact h4
        · simp only [List.size_toArray, List.length_append, List.length_take, List.length_drop, Array.length_toList, hzl]
          omega
        · show (cur.toList.take (i * 2) ++ zs ++ _).take _ = _
          have hl5 : (cur.toList.take (i * 2)).length = i * 2 := by rw [List.length_take, Array.length_toList]; omega
          rw [hll, List.append_assoc, List.take_append_of_le_length (by omega), List.take_of_length_le (by omega), flat_take, ← h3, List.take_take, Nat.min_eq_left (by omega)]
end Go.Proofs.Ytedolmjealgeoaa.Rg
