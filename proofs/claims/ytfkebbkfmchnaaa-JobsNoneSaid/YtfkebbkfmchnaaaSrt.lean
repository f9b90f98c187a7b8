/- The queue's List as a call: a sorted copy. Conditions: the queue lies in memory as told. -/
import Derived.Test.YtfkebbkfmchnaaaCmp
namespace Go.Proofs.Ytfkebbkfmchnaaa.Ln
open Go.Shelf Go.Lib Go.Sort Go.RowKit Go.Proofs.Ytfkebbkfmchnaaa.PBase Go.Proofs.Ytfkebbkfmchnaaa.Cat Go.Proofs.Ytfkebbkfmchnaaa.Heap Go.Proofs.Ytfkebbkfmchnaaa.Dr Go.Proofs.YtfkebbkfmchnaaaW.PrintWords Go.Proofs.YtfkebbkfmchnaaaW.PrintLast Go.Proofs.YtfkebbkfmchnaaaW.PrintMore
/-- The flat row is the list's cells. -/
theorem flatK_flat (ys : List S77) : flatK enc 3 ys.toArray = (flat ys).toArray := by
  apply ext_get! (by simp [flat_len])
  intro t ht
  have ht' : t < ys.length * 3 := by simpa using ht
  rw [get_flatK _ _ _ t (by simpa using ht')]
  have hj : t / 3 < ys.length := by omega
  have h3 : ((flat ys).drop (t / 3 * 3)).take 3 = enc ys[t / 3] := (reps_flat (R := fun x cs => cs = enc x) (fun x => rfl) ys).2 (t / 3) _ (List.getElem?_eq_getElem hj)
  have hf : t < (flat ys).length := by rw [flat_len]; exact ht'
  have hm : t % 3 < 3 := Nat.mod_lt _ (by decide)
  have h4 : (enc ys[t / 3])[t % 3]? = (flat ys)[t]? := by
    rw [← h3, List.getElem?_take, if_pos hm, List.getElem?_drop]
    congr 1
    omega
  have e1 : ys.toArray[t / 3]! = ys[t / 3] := by rw [getElem!_pos _ _ (by simpa using hj)]; simp
  rw [e1]
  show (enc ys[t / 3])[t % 3]! = _
  rw [List.getElem!_eq_getElem?_getD, h4, getElem!_pos _ _ (by simpa using hf), List.getElem?_eq_getElem hf]
  simp
theorem sorted_heap {w : World} {g : Nat} {cur : Array Value} (hh : w.heap[g]? = some (.cells cur 77 (0, 0))) (m : Nat) (ys : List S77) (os : Array Obj) :
    (sortWorldK enc 3 w g 0 m ys.toArray os).heap[g]? = some (.cells (putCells id 0 (flat ys).toArray cur) 77 (0, 0)) := by
  have hlt : g < w.heap.size := (Array.getElem?_eq_some_iff.1 hh).1
  unfold sortWorldK putRowK putRow
  rw [flatK_flat]
  show ((w.heap.modify g (onCells (putCells id 0 (flat ys).toArray))) ++ os)[g]? = _
  rw [Array.getElem?_append_left (by simpa using hlt), Array.getElem?_modify, if_pos rfl, hh]
  rfl
theorem own_sorted {w : World} {base g n cap : Nat} {xs ys : List S77} (ho : w.ownsRow base 77 3 (.slice (some ⟨g, 0, none⟩) n cap) n (flat xs)) (hl : ys.length = n) (m : Nat) (os : Array Obj) :
    (sortWorldK enc 3 w g 0 m ys.toArray os).ownsRow base 77 3 (.slice (some ⟨g, 0, none⟩) n cap) n (flat ys) := by
  obtain ⟨h1, h2⟩ := ho
  refine ⟨by rw [flat_len, hl], ?_⟩
  rcases h2 with ⟨h, _⟩ | ⟨g', cap', cur, he, hb, hh, hn, hc, hs, ht⟩
  · cases h
  · injection he with e1 _ e2
    injection e1 with e1
    injection e1 with e1
    subst e1; subst e2
    refine .inr ⟨g, cap, _, rfl, hb, sorted_heap hh m ys os, hn, hc, by simp [putCells, hs], ?_⟩
    apply List.ext_getElem?
    intro j
    rw [List.getElem?_take]
    split
    · rename_i hj
      have hjc : j < cur.size := by rw [hs]; exact Nat.lt_of_lt_of_le hj (Nat.mul_le_mul_right _ hn)
      have hjf : j < (flat ys).length := by rw [flat_len, hl]; exact hj
      rw [Array.getElem?_toList]
      unfold putCells
      rw [Array.getElem?_mapIdx, Array.getElem?_eq_getElem hjc]
      simp only [Option.map_some]
      rw [if_pos ⟨Nat.zero_le _, by simpa using hjf⟩, List.getElem?_eq_getElem hjf]
      simp [hjf]
    · rename_i hj
      rw [List.getElem?_eq_none (by rw [flat_len, hl]; omega)]
theorem below_sorted {w : World} {base g : Nat} (hb : base ≤ g) (hg : g < w.heap.size) (m : Nat) (ys : List S77) (os : Array Obj) : Below base w (sortWorldK enc 3 w g 0 m ys.toArray os) := by
  refine ⟨rfl, rfl, rfl, size_sortWorldK_c enc 3 w g 0 m ys.toArray os, fun k hk => ?_⟩
  unfold sortWorldK putRowK putRow
  show ((w.heap.modify g _) ++ os)[k]? = _
  rw [Array.getElem?_append_left (by simp; omega), Array.getElem?_modify, if_neg (by omega)]
theorem holds_own {w : World} {base g n cap : Nat} {xs : List S77} (ho : w.ownsRow base 77 3 (.slice (some ⟨g, 0, none⟩) n cap) n (flat xs)) : HoldsK enc 3 w g 0 xs.toArray := by
  unfold HoldsK
  rw [flatK_flat]
  obtain ⟨h1, h2⟩ := ho
  rcases h2 with ⟨h, _⟩ | ⟨g', cap', cur, he, hb, hh, hn, hc, hs, ht⟩
  · cases h
  · injection he with e1 _ e2
    injection e1 with e1
    injection e1 with e1
    subst e1; subst e2
    intro j hj
    have hjf : j < (flat xs).length := by simpa using hj
    refine ⟨?_, blk_frozen hh _⟩
    rw [cell_of_row w g _ cur 77 (0, 0) hh, Nat.zero_add]
    have h3 : (cur.toList.take (n * 3))[j]? = (flat xs)[j]? := by rw [ht]
    rw [List.getElem?_take, if_pos (by rw [← h1]; exact hjf), Array.getElem?_toList, List.getElem?_eq_getElem hjf] at h3
    rw [h3]
    simp [hjf]
theorem sorted_keep {w : World} {g k : Nat} (hk : k < w.heap.size) (hne : k ≠ g) (m : Nat) (dk : Array S77) (os : Array Obj) : (sortWorldK enc 3 w g 0 m dk os).heap[k]? = w.heap[k]? := by
  unfold sortWorldK putRowK putRow
  show ((w.heap.modify g _) ++ os)[k]? = _
  rw [Array.getElem?_append_left (by simp; omega), Array.getElem?_modify, if_neg (by omega)]
/-- In order. -/
def Sorted (ag : Int) (M : List S77) : Prop := M.Pairwise (fun a b => lt ag b a = false)
theorem sorted_of {ag : Int} {l : List S77} {d' : Array S77} (hp : PermIn 0 l.toArray.size l.toArray d') (hs : SortedIn (lt ag) 0 l.toArray.size d') : d'.toList.Perm l ∧ Sorted ag d'.toList := by
  obtain ⟨h1, _, h3⟩ := hp
  have e1 : d'.extract 0 l.toArray.size = d' := by rw [← h1]; exact Array.extract_size
  have e2 : l.toArray.extract 0 l.toArray.size = l.toArray := Array.extract_size
  rw [e1, e2] at h3
  refine ⟨h3, ?_⟩
  unfold Sorted
  rw [List.pairwise_iff_getElem]
  intro i j hi hj hij
  have h := hs i j (Nat.zero_le _) hij (by rw [← h1]; simpa using hj)
  rw [getElem!_pos d' j (by simpa using hj), getElem!_pos d' i (by simpa using hi)] at h
  simpa using h
theorem sortfunc_calls (ag : Int) (bq B : Nat) (g cap base : Nat) (l : List S77) (w : World) (ho : w.ownsRow base 77 3 (.slice (some ⟨g, 0, none⟩) l.length cap) l.length (flat l)) (hg : g < w.heap.size) (hn : l.length ≤ 1000000) (hq : w.cell? ⟨bq, 0, none⟩ = some (.pointer (some ⟨B, 0, none⟩))) (hB : w.cell? ⟨B, 0, none⟩ = some (.int .i64 ag)) (hqg : bq ≠ g) (hBg : B ≠ g) :
    Calls Try.prog 67 #[.slice (some ⟨g, 0, none⟩) l.length cap, .func (.func 68) #[] #[.pointer (some ⟨bq, 0, none⟩)]] w fun e w' => e = .returned (.tuple #[]) ∧ ∃ M m os, M.Perm l ∧ Sorted ag M ∧ w' = sortWorldK enc 3 w g 0 m M.toArray os := by
  have hbq : bq < w.heap.size := World.block_lt_of_cell? w _ hq
  have hbB : B < w.heap.size := World.block_lt_of_cell? w _ hB
  have h := AnyQ.slices_SortFunc Try.sortFunc 3 Try.isAgg77 Try.sizeOf77 enc (fun _ => rfl) (fun x v hv => by simp [enc] at hv; rcases hv with rfl | rfl | rfl <;> rfl) (cf ag) (by rw [ltOf_cf]; exact lt_swo ag) 68 #[.pointer (some ⟨bq, 0, none⟩)] g 0 cap l.toArray w (enters_of Try.func68 (by kernel_rfl) rfl)
    (fun m os dk _ x y => (cmp_calls ag x y bq B _ ((World.cell?_of_block (sorted_keep hbq hqg m dk os)).trans hq) ((World.cell?_of_block (sorted_keep hbB hBg m dk os)).trans hB)).mono (fun e w' he => ⟨he.1, he.2.grown⟩)) (holds_own ho) hg (by simp; omega)
  rw [ltOf_cf] at h
  refine h.mono ?_
  rintro e w' ⟨rfl, d', n, os, h1, h2, h3⟩
  obtain ⟨k1, k2⟩ := sorted_of h1 h2
  exact ⟨rfl, d'.toList, n, os, k1, k2, h3⟩
theorem clone_walk (A0 : Option Addr) (c0 : Nat) (l : List S77) (w : World) (hr0 : Kd.C k77 w A0 l.length l) (hn : l.length ≤ 1000000) :
    Calls Try.prog 66 #[.slice A0 l.length c0] w fun e w' => ∃ v0_, e = .returned v0_ ∧ Kd.R k77 77 w' w.heap.size (fun _ => True) v0_ l ∧ Below w.heap.size w w' := by
  cases A0 with
  | none =>
    have h0 : l.length = 0 := by
      rcases Nat.eq_zero_or_pos l.length with h | h
      · exact h
      · obtain ⟨ad, he, _⟩ := hr0.2.2 h
        cases he
    obtain rfl := List.eq_nil_of_length_eq_zero h0
    have heq := fun W => Lib.run_eql_slice_nil (P := Try.prog) W 63 77 none 0 c0 0 0 Try.underlying63
    go_enter Try.func66, Try.ntmps66
    go_wp2
    go_ret
    exact ⟨_, rfl, Kd.R_nil _ _ _ _ _, Below.refl _ _⟩
  | some ad =>
    have HR0 := Aside0.mk hr0
    clear hr0
    have heq := fun W => Lib.run_eql_slice_nil (P := Try.prog) W 63 77 (some ad) l.length c0 0 0 Try.underlying63
    have HB := below_alloc (Below.refl w.heap.size w) (.cells #[] 77)
    have HL : Kd.R k77 77 (w.alloc (.cells #[] 77)) w.heap.size (fun _ => True) (.slice (some ⟨w.heap.size, 0, none⟩) 0 0) [] := ⟨fun _ _ => trivial, OwnRow.lit w w.heap.size (inner := []) (Reps.none _ _) (Nat.le_refl _) (by simp)⟩
    obtain ⟨v1, w1, hrun, h1, h2⟩ := run_rows 63 (some ad) l.length c0 l HL (Kd.C_below HR0.out HB) HB.size (by simp; omega)
    go_enter Try.func66, Try.ntmps66
    go_wp2_with (at_builtin; refine Lib.wpList_append_run _ (by rfl) (.tmp 5) (.tmp 6) 63 63 (by rfl) (.slice (some ⟨w.heap.size, 0, none⟩) 0 0) (.slice (some ad) l.length c0) (by rfl) (by rfl) v1 w1 hrun ?_)
    go_ret
    exact ⟨_, rfl, h1, HB.trans h2⟩
set_option maxHeartbeats 4000000 in
set_option maxRecDepth 100000 in
theorem list_nil (W : World) : Calls Try.prog 55 #[.pointer none] W fun e w' => e = .returned (.slice none 0 0) ∧ RowKit.Below W.heap.size W w' := by
  go_enter Try.func55, Try.ntmps55
  go_wp2
  go_ret
  exact ⟨rfl, below_alloc (Below.refl _ _) _⟩
set_option maxHeartbeats 4000000 in
set_option maxRecDepth 100000 in
theorem list_calls {W : World} {base B : Nat} {ag rm ct : Int} {v : Value} {L : List S77} (h : QS W base B ag v rm ct L) (hl : L.length ≤ 100000) :
    Calls Try.prog 55 #[.pointer (some ⟨B, 0, none⟩)] W fun e w' => ∃ v0_ M, e = .returned v0_ ∧ M.Perm L ∧ Sorted ag M ∧ Kd.R k77 77 w' W.heap.size (fun _ => True) v0_ M ∧ RowKit.Below W.heap.size W w' := by
  obtain ⟨A, c, hv, _, hC⟩ := Kd.R_reads (R_of_own h.own)
  subst hv
  have c1 : W.cell? ⟨B, 1, none⟩ = some (.slice A L.length c) := h.cell 1
  have c0 : W.cell? ⟨B, 0, none⟩ = some (.int .i64 ag) := h.cell 0
  have hlt := h.lt
  have hne : B ≠ W.heap.size := by omega
  have HQ := Aside0.mk h
  clear h
  have hb1 : RowKit.Below W.heap.size W (W.alloc (.cells #[.pointer (some ⟨B, 0, none⟩)] 66)) := below_alloc (Below.refl W.heap.size W) _
  have HB1 := Aside0.mk hb1
  have HC := Aside0.mk (Kd.C_below hC hb1)
  have hsz : (W.alloc (.cells #[.pointer (some ⟨B, 0, none⟩)] 66)).heap.size = W.heap.size + 1 := by simp
  have HSZ := Aside0.mk hsz
  have hq0 : (W.alloc (.cells #[.pointer (some ⟨B, 0, none⟩)] 66)).cell? ⟨W.heap.size, 0, none⟩ = some (.pointer (some ⟨B, 0, none⟩)) := by simp
  have HQ0 := Aside0.mk hq0
  have HC0 := Aside0.mk ((hb1.cell (p := ⟨B, 0, none⟩) hlt).trans c0)
  clear hb1 hC c0 hsz hq0
  by_cases h0 : 0 < L.length
  · go_enter Try.func55, Try.ntmps55
    go_wp2_with (first
      | (go_at_call 66; refine (clone_walk A c L _ HC.out (by omega)).mono ?_; rintro e w1 ⟨v, rfl, HV, hb⟩; obtain ⟨g, cap, rfl, hgb, hgl, _⟩ := Kd.R_form HV h0; have HV := Aside0.mk HV)
      | (go_at_call 67; refine (sortfunc_calls ag W.heap.size B g cap _ L w1 (own_of_R HV.out) hgl (by omega) ((hb.cell (p := ⟨W.heap.size, 0, none⟩) (by rw [HSZ.out]; exact Nat.lt_succ_self _)).trans HQ0.out) ((hb.cell (p := ⟨B, 0, none⟩) (by rw [HSZ.out]; exact Nat.lt_succ_of_lt hlt)).trans HC0.out) (by have := HSZ.out; omega) (by have := HSZ.out; omega)).mono ?_; rintro e w2 ⟨rfl, M, m, os, hM1, hM2, rfl⟩))
    go_ret
    have hml : M.length = L.length := hM1.length_eq
    refine ⟨_, M, rfl, hM1, hM2, ?_, ?_⟩
    · have ho := own_sorted (own_of_R HV.out) hml m os
      have hR := R_of_own (v := .slice (some ⟨g, 0, none⟩) L.length cap) (xs := M) (by rw [hml]; exact ho)
      exact Kd.R_lower hR (by rw [HSZ.out]; exact Nat.le_succ _)
    · exact below_step HB1.out (hb.trans (below_sorted hgb hgl m M os))
  · have hl0 : L = [] := List.eq_nil_of_length_eq_zero (by omega)
    subst hl0
    go_enter Try.func55, Try.ntmps55
    go_wp2_with (first
      | (go_at_call 66; refine (clone_walk A c [] _ HC.out (by omega)).mono ?_; rintro e w1 ⟨v, rfl, HV, hb⟩; obtain ⟨A2, cap, rfl⟩ := Kd.R_slice HV; have HV := Aside0.mk HV)
      | (go_at_call 67; refine (AnyF.slices_SortFunc_none Try.sortFunc A2 cap (.func (.func 68) #[] #[.pointer (some ⟨W.heap.size, 0, none⟩)]) w1).mono ?_; rintro e w2 ⟨rfl, rfl⟩))
    go_ret
    exact ⟨_, [], rfl, List.Perm.refl _, List.Pairwise.nil, Kd.R_lower HV.out (by rw [HSZ.out]; exact Nat.le_succ _), below_step HB1.out hb⟩
end Go.Proofs.Ytfkebbkfmchnaaa.Ln
