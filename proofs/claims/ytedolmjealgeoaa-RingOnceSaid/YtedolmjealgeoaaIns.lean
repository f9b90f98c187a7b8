/- slices.Insert of one timer as a call. Conditions: the row is the call's own, the timer lies in a block of its own, the place is in the row. -/
import Derived.Test.YtedolmjealgeoaaFr
import Derived.Lib.AppendZerosOnto
set_option linter.unusedVariables false
set_option linter.unusedSimpArgs false
namespace Go.Proofs.Ytedolmjealgeoaa.Rg
open Go.RowKit Go.Lib Go.Proofs.Ytedolmjealgeoaa.PBase Go.Proofs.Ytedolmjealgeoaa.Cat Go.Proofs.YtedolmjealgeoaaW.PrintWords Go.Proofs.YtedolmjealgeoaaW.PrintLast Go.Proofs.YtedolmjealgeoaaW.PrintMore
set_option maxRecDepth 100000 in
theorem cut_lo (b o n c : Nat) (k : Int) (m : Nat) (hk : k = (m : Int)) (hm : m ≤ n) (hc : m < c) : ∀ W : World, (Instr.slice 33 (.slice (some ⟨b, o, none⟩) n c) (some (.int .i64 k)) none none).run Try.prog W = .ok (.slice (some ⟨b, o + m * 2, none⟩) (n - m) (c - m)) W := by
  intro W
  subst hk
  obtain ⟨i0, hi, hzz⟩ := Option.map_eq_some_iff.1 info24
  simp only [Prod.mk.injEq] at hzz
  have h := cut_from (P := Try.prog) 33 24 .i64 Try.underlying33 hi 2 hzz.2.1 (some ⟨b, o, none⟩) n c (m : Int) (by omega) (by omega) W
  rw [h, Int.toNat_natCast, if_neg (by omega)]
  congr 2
  simp only [Option.map_some, Addr.add]
  split
  · rename_i e
    rw [show m = 0 by omega]
    rfl
  · rfl
set_option maxRecDepth 100000 in
theorem cut_hi (A : Option Addr) (n c : Nat) (k : Int) (m : Nat) (hk : k = (m : Int)) (h : m ≤ c) : ∀ W : World, (Instr.slice 33 (.slice A n c) none (some (.int .i64 k)) none).run Try.prog W = .ok (.slice A m c) W := by
  intro W
  subst hk
  have hel : Try.prog.elem 33 = 24 := by simp [Program.elem, Try.underlying33]
  have hu : Try.prog.underlying 33 = some (.slice (Try.prog.elem 33)) := by rw [hel]; exact Try.underlying33
  obtain ⟨i0, hi, hzz⟩ := Option.map_eq_some_iff.1 info24
  have ha : (A.map fun x => x.add 0) = A := by cases A <;> simp [Addr.add]
  rw [run_slice_h W 33 A n c hu .i64 (m : Int) (by omega) (by omega), hel]
  simp [sizeOf, typeInfo, hi, sliced, Result.andThen, ha]
theorem row_cell {w : World} {g c : Nat} {cur : Array Value} {cs : List Value} {o : Nat} (hg : w.heap[g]? = some (.cells cur 24 (0, 0))) (hcur : cur.toList.take c = cs) {j : Nat} {v : Value} (h : cs[o + j]? = some v) : w.cell? ⟨g, o + j, none⟩ = some v := by
  rw [cell_of_row w g (o + j) cur 24 (0, 0) hg]
  subst hcur
  rw [List.getElem?_take] at h
  split at h
  · simpa using h
  · cases h
theorem flat_drop (xs : List S24) (i : Nat) : flat (xs.drop i) = (flat xs).drop (i * 2) := by
  induction i generalizing xs with
  | zero => simp
  | succ i ih =>
    cases xs with
    | nil => simp [flat]
    | cons x xs =>
      rw [List.drop_succ_cons, ih, flat_cons, show (i + 1) * 2 = (enc x).length + i * 2 by simp [enc]; omega, ← List.drop_drop, List.drop_left]
theorem flat_take (xs : List S24) (i : Nat) : flat (xs.take i) = (flat xs).take (i * 2) := by
  induction i generalizing xs with
  | zero => simp [flat]
  | succ i ih =>
    cases xs with
    | nil => simp [flat]
    | cons x xs =>
      rw [List.take_succ_cons, flat_cons, ih, flat_cons, show (i + 1) * 2 = (enc x).length + i * 2 by simp [enc]; omega, List.take_length_add_append]
set_option maxHeartbeats 4000000 in
set_option maxRecDepth 100000 in
/-- There is room: in place. -/
theorem insert_shift (g n c i x : Nat) (cur : Array Value) (xs : List S24) (d : S24) (w : World) (hi : i < n) (hroom : n + 1 ≤ c) (hc63 : c ≤ 9223372036854775807) (hxg : x ≠ g) (hg : w.heap[g]? = some (.cells cur 24 (0, 0))) (hcs : cur.size = c * 2) (hn : xs.length = n) (hcur : cur.toList.take (n * 2) = flat xs) (hx : w.heap[x]? = some (.cells #[.int .i64 d.f0, .int .u64 d.f1] 24 (0, 0))) :
    Calls Try.prog 15 #[.slice (some ⟨g, 0, none⟩) n c, .int .i64 i, .slice (some ⟨x, 0, none⟩) 1 1] w fun e w' =>
      e = .returned (.slice (some ⟨g, 0, none⟩) (n + 1) c) ∧ w' = w.drew.setRow g (flat (xs.take i ++ d :: xs.drop i) ++ cur.toList.drop ((n + 1) * 2)).toArray := by
  have hz2 : ¬ ((i : Int) = (n : Int)) := by omega
  obtain ⟨i0, hi0, hzz⟩ := Option.map_eq_some_iff.1 info24
  simp only [Prod.mk.injEq] at hzz
  have hgsh : w.shape? g = some (24, cur.size) := by simp [World.shape?, hg]
  have hxsh : w.shape? x = some (24, 2) := by simp [World.shape?, hx]
  have hov : ∀ lb cb, (callFunc 26 #[.slice (some ⟨x, 0, none⟩) 1 1, .slice (some ⟨g, (i + 1) * 2, none⟩) lb cb]).run Try.prog w = .ok (.value (.bool false)) w := fun lb cb => by
    rw [run_callFunc_extern Try.func26 (by kernel_rfl) (by kernel_rfl) (by kernel_rfl) (e := Extern.SlicesOverlaps.overlaps #[33, 33] #[4]) (by kernel_rfl),
      Lib.run_overlaps_apart w 33 4 24 Try.underlying33 2 (fun w => by simp [sizeOf, typeInfo, hi0, hzz.2.1]) ⟨x, 0, none⟩ ⟨g, (i + 1) * 2, none⟩ 1 1 lb cb hxg 24 24 2 cur.size hxsh hgsh (by omega) (by simp [World.frozen?, hx]) (by simp [World.frozen?, hx])]
    rfl
  have hdl : (flat (xs.drop i)).length = (n - i) * 2 := by rw [flat_len, List.length_drop, hn]
  obtain ⟨cur1, hcur1⟩ : ∃ cur1, cur1 = (cur.toList.take ((i + 1) * 2) ++ flat (xs.drop i) ++ cur.toList.drop ((i + 1) * 2 + (flat (xs.drop i)).length)).toArray := ⟨_, rfl⟩
  have hcp1 : ∀ ty dc sc, (Builtin.copy_ #[33, 33] ty #[.slice (some ⟨g, (i + 1) * 2, none⟩) (n - i) dc, .slice (some ⟨g, i * 2, none⟩) (n + 1 - i) sc]).run Try.prog w.drew = .ok (goInt (Nat.min (n + 1 - i) (n - i))) (w.drew.setRow g cur1) := fun ty dc sc => by
    rw [hcur1]
    exact run_copy2 w.drew ty g ((i + 1) * 2) (n - i) dc ⟨g, i * 2, none⟩ (n + 1 - i) sc cur 24 (flat (xs.drop i)) hg (by rw [hdl]; congr 1; simp only [Nat.min_def]; split <;> omega)
      (fun j v hj => by
        rw [Addr.add_lit]
        refine row_cell (w := w.drew) hg hcur ?_
        rw [flat_drop, List.getElem?_drop] at hj
        exact hj) (by rw [hdl]; omega) flat_one
  have hs1 : cur1.size = c * 2 := by
    rw [hcur1]
    simp only [List.size_toArray, List.length_append, List.length_take, List.length_drop, Array.length_toList, hdl]
    omega
  have hW1 : ∀ W : World, W.heap = (w.drew.setRow g cur1).heap → W.heap[g]? = some (.cells cur1 24 (0, 0)) := fun W hW => by
    rw [hW]
    exact setRow_heap w.drew g cur cur1 24 (0, 0) hg
  have hx1 : (w.drew.setRow g cur1).heap[x]? = some (.cells #[.int .i64 d.f0, .int .u64 d.f1] 24 (0, 0)) := ((Fr.setRow w.drew g cur1).blk x (blk_lt hx) (fun e => hxg e)).trans hx
  have hcp2 : ∀ (W : World), W.heap = (w.drew.setRow g cur1).heap → ∀ ty dc, (Builtin.copy_ #[33, 33] ty #[.slice (some ⟨g, i * 2, none⟩) (n + 1 - i) dc, .slice (some ⟨x, 0, none⟩) 1 1]).run Try.prog W = .ok (goInt (Nat.min 1 (n + 1 - i))) (W.setRow g (cur1.toList.take (i * 2) ++ flat [d] ++ cur1.toList.drop (i * 2 + (flat [d]).length)).toArray) := fun W hW ty dc =>
    run_copy2 W ty g (i * 2) (n + 1 - i) dc ⟨x, 0, none⟩ 1 1 cur1 24 (flat [d]) (hW1 W hW) (by rw [flat_len]; congr 1; simp only [Nat.min_def, List.length_singleton]; split <;> omega)
      (fun j v hj => by
        rw [Addr.add_lit, cell_of_row W x (0 + j) _ 24 (0, 0) (by rw [hW]; exact hx1)]
        simpa [flat, enc] using hj) (by rw [flat_len, hs1]; simp only [List.length_singleton]; omega) flat_one
  have hend : (cur1.toList.take (i * 2) ++ flat [d] ++ cur1.toList.drop (i * 2 + (flat [d]).length)) = flat (xs.take i ++ d :: xs.drop i) ++ cur.toList.drop ((n + 1) * 2) := by
    have hl0 : (cur.toList.take ((i + 1) * 2)).length = (i + 1) * 2 := by rw [List.length_take, Array.length_toList]; omega
    have hd2 : (flat [d]).length = 2 := rfl
    rw [hcur1, hd2, hdl]
    simp only [List.append_assoc]
    rw [List.take_append_of_le_length (by omega), List.take_take, Nat.min_eq_left (by omega), show i * 2 + 2 = (i + 1) * 2 by omega]
    rw [List.drop_append_of_le_length (by omega), List.drop_eq_nil_of_le (by omega), List.nil_append, flat_append, flat_cons, flat_take, show ((i + 1) * 2) + (n - i) * 2 = (n + 1) * 2 by omega, ← hcur, List.take_take, Nat.min_eq_left (by omega)]
    simp [flat]
  have q1 := cut_lo g 0 n c (i : Int) i rfl (by omega) (by omega)
  have q2 := cut_hi (some ⟨g, 0, none⟩) n c ((n : Int) + 1) (n + 1) (by omega) hroom
  have q3 := cut_lo g 0 (n + 1) c ((i : Int) + 1) (i + 1) (by omega) (by omega) (by omega)
  have q4 := cut_lo g 0 (n + 1) c (i : Int) i rfl (by omega) (by omega)
  rw [hend] at hcp2
  have hW1 := Aside0.mk hW1
  clear hend hcur1 hzz
  have mixed : Try.prog.follows Departure.mixedOrders = true := by kernel_rfl
  have hw1 : IntKind.i64.wrap ((i : Int) + 1) = (i : Int) + 1 := by rw [IntKind.wrap_i64]; omega
  have hb1 : (0 : Int) ≤ (i : Int) + 1 := by omega
  have hin : i ≤ n := by omega
  have htn : ((i : Int) + 1).toNat = i + 1 := by omega
  have hb2 : ¬ (c = i + 1) := by omega
  have hb3 : (i : Int) ≤ (n : Int) + 1 := by omega
  have hb4 : ¬ (c = i) := by omega
  go_enter Try.func15, Try.ntmps15
  go_wp2_with (simp only [hov])
  go_region_law_o (refine step_copy_runI rfl _ _ 33 33 rfl _ _ (by simp [Act.eval, Act.put]) (by simp [Act.eval, Act.put]) (hcp1 _ _ _) ?_)
  go_wp2_with (at_builtin; refine wpList_copy_runI _ rfl _ _ 33 33 rfl _ _ rfl rfl (hcp2 _ rfl _ _) ?_)
  go_ret
  exact ⟨rfl, by rw [setRow_setRow]⟩
set_option maxHeartbeats 4000000 in
set_option maxRecDepth 100000 in
/-- There is no room: a new row. -/
theorem insert_grow (g n i x : Nat) (cur : Array Value) (xs : List S24) (d : S24) (w : World) (hi : i < n) (hbig : n ≤ 1000000) (hxg : x ≠ g) (hg : w.heap[g]? = some (.cells cur 24 (0, 0))) (hn : xs.length = n) (hcur : cur.toList.take (n * 2) = flat xs) (hx : w.heap[x]? = some (.cells #[.int .i64 d.f0, .int .u64 d.f1] 24 (0, 0))) :
    Calls Try.prog 15 #[.slice (some ⟨g, 0, none⟩) n n, .int .i64 i, .slice (some ⟨x, 0, none⟩) 1 1] w fun e w' => ∃ c cells,
      e = .returned (.slice (some ⟨w.heap.size, 0, none⟩) (n + 1) c) ∧ w'.heap[w.heap.size]? = some (.cells cells 24 (0, 0)) ∧ n + 1 ≤ c ∧ c ≤ maxLen ∧ cells.size = c * 2 ∧ cells.toList.take ((n + 1) * 2) = flat (xs.take i ++ d :: xs.drop i) ∧ Below w.heap.size w w' := by
  have hz2 : ¬ ((i : Int) = (n : Int)) := by omega
  obtain ⟨i0, hi0, hz0, hzs, hzb⟩ := info_parts info24
  have hgw := blk_lt hg
  have hxw := blk_lt hx
  have hkk : (n : Int) + 1 - (i : Int) = ((n + 1 - i : Nat) : Int) := by omega
  have hik : i + (n + 1 - i) = n + 1 := by omega
  have hft : (flat (xs.take i)).length = i * 2 := by rw [flat_len, List.length_take]; omega
  have hold : (Builtin.firstCells i0.size i (.slice (some ⟨g, 0, none⟩) i n)).run Try.prog w.drew = .ok (flat (xs.take i)).toArray w.drew := by
    rw [hzs]
    exact run_firstCells_some w.drew 2 i ⟨g, 0, none⟩ i n (flat (xs.take i)) hft (fun j v hj => by
      rw [Addr.add_lit]
      refine row_cell (w := w.drew) hg hcur ?_
      rw [flat_take, List.getElem?_take] at hj
      rw [Nat.zero_add]
      split at hj
      · exact hj
      · cases hj)
  obtain ⟨G, hG⟩ : ∃ G, G = grownCap w (n + 1) n 24 := ⟨_, rfl⟩
  obtain ⟨ROW, hROW⟩ : ∃ ROW : Array Value, ROW = (flat (xs.take i)).toArray ++ Builtin.zeroCells (Value.agg #[.int .i64 0, .int .u64 0]).cells (n + 1 - i) ++ Builtin.zeroCells (Value.agg #[.int .i64 0, .int .u64 0]).cells (G - (n + 1)) := ⟨_, rfl⟩
  have hrz : ∀ ty, (Builtin.append_ #[33, 3] ty #[.slice (some ⟨g, 0, none⟩) i n, .int .i64 ((n : Int) + 1 - (i : Int))]).run Try.prog w = .ok (.slice (some ⟨w.heap.size, 0, none⟩) (n + 1) G) (w.drew.alloc (.cells ROW 24)) := fun ty => by
    have h := Lib.run_append_grow_zeros w 33 3 ty 24 i0 _ .i64 .i64 Try.underlying33 Try.underlying3 hi0 hz0 (some ⟨g, 0, none⟩) i n (flat (xs.take i)) hold (n + 1 - i) (by omega) (by omega) (by omega) (by omega) (by rw [hzb]; omega) (by rw [hzb, hik]; exact growslice_fits (by omega) (by omega))
    rw [hik, ← hG, ← hROW] at h
    rw [hkk]
    exact h
  have hGn : n + 1 ≤ G := by rw [hG]; exact grownCap_ge w _ _ _
  have hGm : G ≤ maxLen := by
    rw [hG]
    exact grownCap_le_maxLen w (n + 1) n 24 (by unfold maxLen; omega)
  have hG63 : G ≤ 9223372036854775807 := by unfold maxLen at hGm; omega
  have hRs : ROW.size = G * 2 := by
    rw [hROW]
    simp only [Array.size_append, List.size_toArray, hft]
    rw [show ∀ k, (Builtin.zeroCells (Value.agg #[.int .i64 0, .int .u64 0]).cells k).size = k * 2 from fun k => by simp [Builtin.zeroCells, Value.cells]]
    rw [show ∀ k, (Builtin.zeroCells (Value.agg #[.int .i64 0, .int .u64 0]).cells k).size = k * 2 from fun k => by simp [Builtin.zeroCells, Value.cells]]
    omega
  have hRt : ROW.toList.take (i * 2) = flat (xs.take i) := by
    rw [hROW]
    simp only [Array.toList_append, List.append_assoc]
    rw [List.take_append_of_le_length (by omega), List.take_of_length_le (by omega)]
  clear hROW hG
  obtain ⟨W1, hW1⟩ : ∃ W1, W1 = w.drew.alloc (.cells ROW 24) := ⟨_, rfl⟩
  have hN1 : W1.heap[w.heap.size]? = some (.cells ROW 24 (0, 0)) := by rw [hW1]; exact blk_new w.drew _
  have hX1 : W1.heap[x]? = some (.cells #[.int .i64 d.f0, .int .u64 d.f1] 24 (0, 0)) := by rw [hW1]; exact blk_below (g := x) hx ((below_drew1 (Below.refl _ _)).trans (below_alloc (Below.refl w.drew.heap.size w.drew) _))
  have hG1 : W1.heap[g]? = some (.cells cur 24 (0, 0)) := by rw [hW1]; exact blk_below (g := g) hg ((below_drew1 (Below.refl _ _)).trans (below_alloc (Below.refl w.drew.heap.size w.drew) _))
  obtain ⟨cA, hcA⟩ : ∃ cA, cA = (ROW.toList.take (i * 2) ++ flat [d] ++ ROW.toList.drop (i * 2 + (flat [d]).length)).toArray := ⟨_, rfl⟩
  have hcpA : ∀ (W : World), W.heap = W1.heap → ∀ ty dc, (Builtin.copy_ #[33, 33] ty #[.slice (some ⟨w.heap.size, i * 2, none⟩) (n + 1 - i) dc, .slice (some ⟨x, 0, none⟩) 1 1]).run Try.prog W = .ok (goInt (Nat.min 1 (n + 1 - i))) (W.setRow w.heap.size cA) := fun W hW ty dc => by
    rw [hcA]
    exact run_copy2 W ty w.heap.size (i * 2) (n + 1 - i) dc ⟨x, 0, none⟩ 1 1 ROW 24 (flat [d]) (by rw [hW]; exact hN1) (by rw [flat_len]; congr 1; simp only [Nat.min_def, List.length_singleton]; split <;> omega)
      (fun j v hj => by
        rw [Addr.add_lit, cell_of_row W x (0 + j) _ 24 (0, 0) (by rw [hW]; exact hX1)]
        simpa [flat, enc] using hj) (by rw [flat_len, hRs]; simp only [List.length_singleton]; omega) flat_one
  have hd2 : (flat [d]).length = 2 := rfl
  have hdl : (flat (xs.drop i)).length = (n - i) * 2 := by rw [flat_len, List.length_drop, hn]
  have hsA : cA.size = G * 2 := by
    rw [hcA]
    simp only [List.size_toArray, List.length_append, List.length_take, List.length_drop, Array.length_toList, hd2]
    omega
  obtain ⟨cB, hcB⟩ : ∃ cB, cB = (cA.toList.take ((i + 1) * 2) ++ flat (xs.drop i) ++ cA.toList.drop ((i + 1) * 2 + (flat (xs.drop i)).length)).toArray := ⟨_, rfl⟩
  have hNA : ∀ W : World, W.heap = (W1.setRow w.heap.size cA).heap → W.heap[w.heap.size]? = some (.cells cA 24 (0, 0)) := fun W hW => by
    rw [hW]
    exact setRow_heap W1 w.heap.size ROW cA 24 (0, 0) hN1
  have hGA : (W1.setRow w.heap.size cA).heap[g]? = some (.cells cur 24 (0, 0)) := ((Fr.setRow W1 w.heap.size cA).blk g (blk_lt hG1) (fun e => by omega)).trans hG1
  have hcpB : ∀ (W : World), W.heap = (W1.setRow w.heap.size cA).heap → ∀ ty dc sc, (Builtin.copy_ #[33, 33] ty #[.slice (some ⟨w.heap.size, (i + 1) * 2, none⟩) (n - i) dc, .slice (some ⟨g, i * 2, none⟩) (n - i) sc]).run Try.prog W = .ok (goInt (Nat.min (n - i) (n - i))) (W.setRow w.heap.size cB) := fun W hW ty dc sc => by
    rw [hcB]
    exact run_copy2 W ty w.heap.size ((i + 1) * 2) (n - i) dc ⟨g, i * 2, none⟩ (n - i) sc cA 24 (flat (xs.drop i)) (hNA W hW) (by rw [hdl]; congr 1; simp only [Nat.min_def]; split <;> omega)
      (fun j v hj => by
        rw [Addr.add_lit]
        refine row_cell (w := W) (by rw [hW]; exact hGA) hcur ?_
        rw [flat_drop, List.getElem?_drop] at hj
        exact hj) (by rw [hdl]; omega) flat_one
  have hsB : cB.size = G * 2 := by
    rw [hcB]
    simp only [List.size_toArray, List.length_append, List.length_take, List.length_drop, Array.length_toList, hdl]
    omega
  have hend : cB.toList.take ((n + 1) * 2) = flat (xs.take i ++ d :: xs.drop i) := by
    have hl0 : (cA.toList.take ((i + 1) * 2)).length = (i + 1) * 2 := by rw [List.length_take, Array.length_toList]; omega
    have e1 : cA.toList.take ((i + 1) * 2) = flat (xs.take i) ++ flat [d] := by
      rw [hcA, hRt, hd2]
      simp only [List.append_assoc]
      rw [← List.append_assoc, List.take_append_of_le_length (by rw [List.length_append, hft, hd2]; omega), List.take_of_length_le (by rw [List.length_append, hft, hd2]; omega)]
    rw [hcB]
    show (cA.toList.take ((i + 1) * 2) ++ flat (xs.drop i) ++ _).take _ = _
    rw [List.take_append_of_le_length (by rw [List.length_append, hl0, hdl]; omega), List.take_of_length_le (by rw [List.length_append, hl0, hdl]; omega), e1, flat_append, flat_cons]
    simp [flat]
  have hBl : ∀ W : World, W.heap = W1.heap → W.os = W1.os → W.tape = W1.tape → W.output = W1.output → Below w.heap.size w W := fun W h1 h2 h3 h4 => by
    have hb : Below w.heap.size w W1 := by rw [hW1]; exact below_alloc (below_drew1 (Below.refl _ _)) _
    exact ⟨h2.trans hb.os, h3.trans hb.tape, h4.trans hb.output, by rw [h1]; exact hb.size, fun k hk => by rw [h1]; exact hb.block k hk⟩
  clear hcB hcA hRt hold hz0 hzs hzb hi0
  have hE1 : ((w.alloc (.cells ROW 24)).drew).heap = W1.heap := by rw [hW1]; rfl
  have hE2 : (((w.alloc (.cells ROW 24)).drew.setRow w.heap.size cA).drew).heap = (W1.setRow w.heap.size cA).heap := by rw [hW1]; rfl
  have hE3 : (w.alloc (.cells ROW 24)).drew.os = W1.os ∧ (w.alloc (.cells ROW 24)).drew.tape = W1.tape ∧ (w.alloc (.cells ROW 24)).drew.output = W1.output := by rw [hW1]; exact ⟨rfl, rfl, rfl⟩
  have hE3 := Aside0.mk hE3
  clear hW1
  have mixed : Try.prog.follows Departure.mixedOrders = true := by kernel_rfl
  have hw1 : IntKind.i64.wrap ((i : Int) + 1) = (i : Int) + 1 := by rw [IntKind.wrap_i64]; omega
  have hb1 : (0 : Int) ≤ (i : Int) + 1 := by omega
  have hin : i ≤ n := by omega
  have htn : ((i : Int) + 1).toNat = i + 1 := by omega
  have hb2 : ¬ (G = i + 1) := by omega
  have hb3 : (i : Int) ≤ (n : Int) + 1 := by omega
  have hb4 : ¬ (G = i) := by omega
  have hb5 : ¬ (n = i) := by omega
  have hGi : ¬ (G = i) := by omega
  have HE := Aside0.mk (And.intro hsB (And.intro hend (And.intro hGn hGm)))
  have HN := Aside0.mk hNA
  have HB := Aside0.mk hBl
  clear hsB hend hGn hGm hNA hBl hkk hik
  go_enter Try.func15, Try.ntmps15
  go_wp2_with (first
    | (at_builtin; refine Lib.wpList_append_run _ rfl _ _ _ _ rfl _ _ rfl rfl _ _ (hrz _) ?_)
    | (at_builtin; refine wpList_copy_runI _ rfl _ _ 33 33 rfl _ _ rfl rfl (hcpA _ hE1 _ _) ?_))
  go_region_law_o (refine step_copy_runI rfl _ _ 33 33 rfl (.slice (some ⟨w.heap.size, (i + 1) * 2, none⟩) (n - i) (G - (i + 1))) (.slice (some ⟨g, i * 2, none⟩) (n - i) (n - i)) (by simp [Act.eval, Act.put]) (by simp [Act.eval, Act.put]) (hcpB _ hE2 3 (G - (i + 1)) (n - i)) ?_)
  go_wp2
  go_ret
  obtain ⟨e1, e2, e3, e4⟩ := HE.out
  refine ⟨G, cB, rfl, ?_, e3, e4, e1, e2, ?_⟩
  · exact setRow_heap _ w.heap.size cA cB 24 (0, 0) (HN.out _ hE2)
  · have h1 := HB.out (w.alloc (Obj.cells ROW 24)).drew hE1 hE3.out.1 hE3.out.2.1 hE3.out.2.2
    have h2 := (Fr.of_below (F := fun k => k = w.heap.size) h1).then_ (Fr.setRow (w.alloc (Obj.cells ROW 24)).drew w.heap.size cA) (fun _ h => .inl h)
    have h3 := (h2.then_ (Fr.drew _) (fun _ h => .inl h)).then_ (Fr.setRow _ w.heap.size cB) (fun _ h => .inl h)
    exact h3.below (Nat.le_refl _) (fun k h => Nat.le_of_eq h.symm)
/-- Where a row lies behind a call: in the elder block, or in a new one. -/
def At (W : World) (v v' : Value) : Prop := v'.ownBlock = v.ownBlock ∨ ∃ b, v'.ownBlock = some b ∧ W.heap.size ≤ b
theorem app_run {W : World} {base : Nat} {ok : Nat → Prop} {v : Value} {xs : List S24} (h : Kd.R k24 24 W base ok v xs) (d : S24) (ty : TypeId) (hl : xs.length ≤ 1000000) (ad : Addr) (c : Nat) (hx : Kd.C k24 W (some ad) 1 [d]) (hb : base ≤ W.heap.size) :
    ∃ v1 w1, (Builtin.append_ #[33, 33] ty #[v, .slice (some ad) 1 c]).run Try.prog W = .ok v1 w1 ∧ Kd.R k24 24 w1 base (fun _ => True) v1 (xs ++ [d]) ∧ Fr (fun k => v.ownBlock = some k) W w1 ∧ At W v v1 := by
  obtain ⟨i0, hi, hzz⟩ := Option.map_eq_some_iff.1 info24
  simp only [Prod.mk.injEq] at hzz
  obtain ⟨hz0, hz1, hz2⟩ := hzz
  obtain ⟨v1, w1, hrun, h2, hg, _, hat⟩ := run_append_own_at (P := Try.prog) W base 33 ty 24 i0 _ 2 16 Try.underlying33 hi hz0 hz1 hz2 rfl (by decide) v xs.length (flat xs) (own_of_R h) ad 1 c (flat [d]) (by rw [flat_len]; rfl) (C_cells hx) flat_one (by simp only [maxLen]; omega) (by omega) hb
  rw [← flat_append] at h2
  refine ⟨v1, w1, hrun, R_of_own (by rw [List.length_append]; exact h2), Fr.of_grown hg (fun k e => e), ?_⟩
  rcases hat with hat | hat
  · exact .inl hat
  · exact .inr ⟨_, hat, Nat.le_refl _⟩
set_option maxHeartbeats 4000000 in
set_option maxRecDepth 100000 in
theorem insert_end {W : World} {base : Nat} {ok : Nat → Prop} {v : Value} {xs : List S24} (h : Kd.R k24 24 W base ok v xs) (d : S24) (hl : xs.length ≤ 1000000) (x : Nat) (hx : W.heap[x]? = some (.cells #[.int .i64 d.f0, .int .u64 d.f1] 24 (0, 0))) (hb : base ≤ W.heap.size) :
    Calls Try.prog 15 #[v, .int .i64 xs.length, .slice (some ⟨x, 0, none⟩) 1 1] W fun e w' => ∃ v1, e = .returned v1 ∧ Kd.R k24 24 w' base (fun _ => True) v1 (xs ++ [d]) ∧ Fr (fun k => v.ownBlock = some k) W w' ∧ At W v v1 := by
  have hC : Kd.C k24 W (some ⟨x, 0, none⟩) 1 [d] := C_of_cells rfl (by omega) fun j u hu => by
    rw [Addr.add_lit, cell_of_row W x (0 + j) _ 24 (0, 0) hx]
    simpa [flat, enc] using hu
  obtain ⟨v1, w1, hr, h1, h2, h3⟩ := app_run h d 33 hl ⟨x, 0, none⟩ 1 hC hb
  have HH := Aside0.mk (And.intro h1 (And.intro h2 h3))
  clear h1 h2 h3 hC
  obtain ⟨A, c, rfl, hc, _⟩ := Kd.R_reads h
  obtain ⟨A1, c1, rfl⟩ := Kd.R_slice HH.out.1
  have hl1 : (xs ++ [d]).length = xs.length + 1 := by simp
  rw [hl1] at hr HH
  clear hl1
  obtain ⟨i0, hi0, hzz⟩ := Option.map_eq_some_iff.1 info24
  simp only [Prod.mk.injEq] at hzz
  have q1 := cut_from (P := Try.prog) 33 24 .i64 Try.underlying33 hi0 2 hzz.2.1 A xs.length c (xs.length : Int) (by omega) (by omega)
  clear hzz
  by_cases hcc : c = xs.length
  · subst hcc
    go_enter Try.func15, Try.ntmps15
    go_wp2_with (at_builtin; refine Lib.wpList_append_run _ rfl _ _ _ _ rfl _ _ rfl rfl _ _ hr ?_)
    go_ret
    exact ⟨_, rfl, HH.out⟩
  · go_enter Try.func15, Try.ntmps15
    go_wp2_with (at_builtin; refine Lib.wpList_append_run _ rfl _ _ _ _ rfl _ _ rfl rfl _ _ hr ?_)
    go_ret
    exact ⟨_, rfl, HH.out⟩
/-- slices.Insert. -/
theorem insert_calls {W : World} {base : Nat} {ok : Nat → Prop} {v : Value} {xs : List S24} (h : Kd.R k24 24 W base ok v xs) (d : S24) (i : Nat) (hi : i ≤ xs.length) (hl : xs.length ≤ 1000000) (x : Nat) (hx : W.heap[x]? = some (.cells #[.int .i64 d.f0, .int .u64 d.f1] 24 (0, 0))) (hxv : v.ownBlock ≠ some x) (hb : base ≤ W.heap.size) :
    Calls Try.prog 15 #[v, .int .i64 i, .slice (some ⟨x, 0, none⟩) 1 1] W fun e w' => ∃ v1, e = .returned v1 ∧ Kd.R k24 24 w' base (fun _ => True) v1 (xs.take i ++ d :: xs.drop i) ∧ Fr (fun k => v.ownBlock = some k) W w' ∧ At W v v1 := by
  rcases Nat.lt_or_ge i xs.length with hlt | hge
  · have hown := own_of_R h
    have hlen := hown.1
    rcases hown.2 with ⟨rfl, hn⟩ | ⟨g, cap, cur, rfl, hbg, hg, hnc, hcm, hcs, hcur⟩
    · omega
    · have hxg : x ≠ g := fun e => hxv (by rw [e]; rfl)
      have hc63 : cap ≤ 9223372036854775807 := by unfold maxLen at hcm; omega
      have hll : (xs.take i ++ d :: xs.drop i).length = xs.length + 1 := by simp only [List.length_append, List.length_take, List.length_cons, List.length_drop]; omega
      rcases Nat.lt_or_ge xs.length cap with hr | hr
      · refine (insert_shift g xs.length cap i x cur xs d W hlt hr hc63 hxg hg hcs rfl hcur hx).mono ?_
        rintro e w' ⟨rfl, rfl⟩
        refine ⟨_, rfl, ?_, (Fr.drew W).then_ (Fr.setRow _ g _) (fun b hb => .inl (by rw [hb]; rfl)), .inl rfl⟩
        rw [← hll]
        refine R_of_own ⟨flat_len _, .inr ⟨g, cap, _, rfl, hbg, setRow_heap W.drew g cur _ 24 (0, 0) hg, by omega, hcm, ?_, ?_⟩⟩
        · simp only [List.size_toArray, List.length_append, flat_len, hll, List.length_drop, Array.length_toList]
          omega
        · show (flat _ ++ _).take _ = _
          rw [List.take_append_of_le_length (by rw [flat_len]; exact Nat.le_refl _), List.take_of_length_le (by rw [flat_len]; exact Nat.le_refl _)]
      · obtain rfl : cap = xs.length := by omega
        refine (insert_grow g xs.length i x cur xs d W hlt hl hxg hg rfl hcur hx).mono ?_
        rintro e w' ⟨c, cells, rfl, h1, h2, h3, h4, h5, h6⟩
        refine ⟨_, rfl, ?_, Fr.of_below h6, .inr ⟨_, rfl, Nat.le_refl _⟩⟩
        rw [← hll] at h2 h5 ⊢
        exact R_of_own ⟨flat_len _, .inr ⟨W.heap.size, c, cells, rfl, hb, h1, h2, h3, h4, h5⟩⟩
  · obtain rfl : i = xs.length := by omega
    rw [List.take_of_length_le (Nat.le_refl _), List.drop_eq_nil_of_le (Nat.le_refl _)]
    exact insert_end h d hl x hx hb
end Go.Proofs.Ytedolmjealgeoaa.Rg
