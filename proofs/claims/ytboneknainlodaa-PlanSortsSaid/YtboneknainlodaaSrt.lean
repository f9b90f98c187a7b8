/- plan.Sort as a call: a sorted copy. Conditions: the list reads. -/
import Derived.Test.YtboneknainlodaaOrd
import Derived.Test.YtboneknainlodaaIdx
import Derived.Shelf.SlSortCmp.NoneTotal
import Derived.Ground.SlsfProg
import Derived.Lib.AppendZeros
namespace Go.Proofs
open Go.Shelf Go.RowKit Go.Lib Go.Sort
shelf_lay_g SlLaysF0.n6 Slsf 6 at Try 22 as Try.sortFunc
end Go.Proofs
namespace Go.Proofs.Ytboneknainlodaa.Giv
open Go.Shelf Go.Lib Go.Sort Go.RowKit Go.Maps Go.Proofs.Ytboneknainlodaa.PBase Go.Proofs.Ytboneknainlodaa.Cat Go.Proofs.YtboneknainlodaaW.PrintWords Go.Proofs.YtboneknainlodaaW.PrintLast Go.Proofs.YtboneknainlodaaW.PrintMore
/-- The flat row is the list's cells. -/
theorem flatK_flat (ys : List S32) : flatK Laid.enc 2 ys.toArray = (flat ys).toArray := by
  apply ext_get! (by simp [flat_len])
  intro t ht
  have ht' : t < ys.length * 2 := by simpa using ht
  rw [get_flatK _ _ _ t (by simpa using ht')]
  have hj : t / 2 < ys.length := by omega
  have h3 : ((flat ys).drop (t / 2 * 2)).take 2 = enc ys[t / 2] := (reps_flat (R := fun x cs => cs = enc x) (fun x => rfl) ys).2 (t / 2) _ (List.getElem?_eq_getElem hj)
  have hf : t < (flat ys).length := by rw [flat_len]; exact ht'
  have hm : t % 2 < 2 := Nat.mod_lt _ (by decide)
  have h4 : (enc ys[t / 2])[t % 2]? = (flat ys)[t]? := by
    rw [← h3, List.getElem?_take, if_pos hm, List.getElem?_drop]
    congr 1
    omega
  have e1 : ys.toArray[t / 2]! = ys[t / 2] := by rw [getElem!_pos _ _ (by simpa using hj)]; simp
  rw [e1]
  show (enc ys[t / 2])[t % 2]! = _
  rw [List.getElem!_eq_getElem?_getD, h4, getElem!_pos _ _ (by simpa using hf), List.getElem?_eq_getElem hf]
  simp
theorem sorted_heap {w : World} {g : Nat} {cur : Array Value} (hh : w.heap[g]? = some (.cells cur 32 (0, 0))) (m : Nat) (ys : List S32) (os : Array Obj) :
    (sortWorldK Laid.enc 2 w g 0 m ys.toArray os).heap[g]? = some (.cells (putCells id 0 (flat ys).toArray cur) 32 (0, 0)) := by
  have hlt : g < w.heap.size := (Array.getElem?_eq_some_iff.1 hh).1
  unfold sortWorldK putRowK putRow
  rw [flatK_flat]
  show ((w.heap.modify g (onCells (putCells id 0 (flat ys).toArray))) ++ os)[g]? = _
  rw [Array.getElem?_append_left (by simpa using hlt), Array.getElem?_modify, if_pos rfl, hh]
  rfl
theorem own_sorted {w : World} {base g n cap : Nat} {xs ys : List S32} (ho : w.ownsRow base 32 2 (.slice (some ⟨g, 0, none⟩) n cap) n (flat xs)) (hl : ys.length = n) (m : Nat) (os : Array Obj) :
    (sortWorldK Laid.enc 2 w g 0 m ys.toArray os).ownsRow base 32 2 (.slice (some ⟨g, 0, none⟩) n cap) n (flat ys) := by
  obtain ⟨h1, h2⟩ := ho
  refine ⟨by rw [flat_len, hl], ?_⟩
  rcases h2 with ⟨h, _⟩ | ⟨g', cap', cur, he, hb, hh, hn, hc, hs, ht⟩
  · cases h
  · injection he with e1 _ e2
    injection e1 with e1
    injection e1 with e1
    subst e1; subst e2
    refine .inr ⟨g, cap, _, rfl, hb, sorted_heap hh m ys os, hn, hc, by simp [putCells, hs], ?_⟩
    apply List.ext_getElem?
    intro j
    rw [List.getElem?_take]
    split
    · rename_i hj
      have hjc : j < cur.size := by rw [hs]; exact Nat.lt_of_lt_of_le hj (Nat.mul_le_mul_right _ hn)
      have hjf : j < (flat ys).length := by rw [flat_len, hl]; exact hj
      rw [Array.getElem?_toList]
      unfold putCells
      rw [Array.getElem?_mapIdx, Array.getElem?_eq_getElem hjc]
      simp only [Option.map_some]
      rw [if_pos ⟨Nat.zero_le _, by simpa using hjf⟩, List.getElem?_eq_getElem hjf]
      simp [hjf]
    · rename_i hj
      rw [List.getElem?_eq_none (by rw [flat_len, hl]; omega)]
theorem below_sorted {w : World} {base g : Nat} (hb : base ≤ g) (hg : g < w.heap.size) (m : Nat) (ys : List S32) (os : Array Obj) : Below base w (sortWorldK Laid.enc 2 w g 0 m ys.toArray os) := by
  refine ⟨rfl, rfl, rfl, size_sortWorldK_c Laid.enc 2 w g 0 m ys.toArray os, fun k hk => ?_⟩
  unfold sortWorldK putRowK putRow
  show ((w.heap.modify g _) ++ os)[k]? = _
  rw [Array.getElem?_append_left (by simp; omega), Array.getElem?_modify, if_neg (by omega)]
theorem holds_own {w : World} {base g n cap : Nat} {xs : List S32} (ho : w.ownsRow base 32 2 (.slice (some ⟨g, 0, none⟩) n cap) n (flat xs)) : HoldsK Laid.enc 2 w g 0 xs.toArray := by
  unfold HoldsK
  rw [flatK_flat]
  obtain ⟨h1, h2⟩ := ho
  rcases h2 with ⟨h, _⟩ | ⟨g', cap', cur, he, hb, hh, hn, hc, hs, ht⟩
  · cases h
  · injection he with e1 _ e2
    injection e1 with e1
    injection e1 with e1
    subst e1; subst e2
    intro j hj
    have hjf : j < (flat xs).length := by simpa using hj
    refine ⟨?_, blk_frozen hh _⟩
    rw [cell_of_row w g _ cur 32 (0, 0) hh, Nat.zero_add]
    have h3 : (cur.toList.take (n * 2))[j]? = (flat xs)[j]? := by rw [ht]
    rw [List.getElem?_take, if_pos (by rw [← h1]; exact hjf), Array.getElem?_toList, List.getElem?_eq_getElem hjf] at h3
    rw [h3]
    simp [hjf]
theorem lt_iff (a b : S32) : lt a b = true ↔ a.f1 < b.f1 ∨ (a.f1 = b.f1 ∧ a.f0 < b.f0) := by unfold lt; simp
theorem lt_false (a b : S32) : lt a b = false ↔ ¬ (a.f1 < b.f1 ∨ (a.f1 = b.f1 ∧ a.f0 < b.f0)) := by rw [← lt_iff]; simp
theorem ltOf_cf : ltOf cf = lt := by
  funext a b
  obtain ⟨r, h1, h2, h3⟩ := order_is a b
  have hc : cf a b = r := by unfold cf; rw [h1]; rfl
  unfold ltOf
  rw [hc]
  cases hl : lt a b with
  | true => exact decide_eq_true (by
      refine Decidable.byContradiction fun h => ?_
      rw [h2.1 (by omega)] at hl; cases hl)
  | false => exact decide_eq_false (by have := h2.2 hl; omega)
theorem lt_swo : SWO lt := by
  refine ⟨fun x => ?_, fun x y z h1 h2 => ?_, fun x y z h1 h2 => ?_⟩
  · rw [lt_false]; omega
  · rw [lt_iff] at *; omega
  · rw [lt_false] at *; omega
theorem lt_total (x y : S32) (h1 : lt x y = false) (h2 : lt y x = false) : x = y := by
  rw [lt_false] at h1 h2
  have e0 : x.f0 = y.f0 := by omega
  have e1 : x.f1 = y.f1 := by omega
  cases x; cases y
  simp_all
/-- Timers in order. -/
def psort (l : List S32) : List S32 := l.mergeSort fun x y => !lt y x
theorem sortfunc_calls (g cap base : Nat) (l : List S32) (w : World) (ho : w.ownsRow base 32 2 (.slice (some ⟨g, 0, none⟩) l.length cap) l.length (flat l)) (hg : g < w.heap.size) (hn : l.length ≤ 1000000) :
    Calls Try.prog 22 #[.slice (some ⟨g, 0, none⟩) l.length cap, .func (.func 20) #[] #[]] w fun e w' => e = .returned (.tuple #[]) ∧ ∃ m os, w' = sortWorldK Laid.enc 2 w g 0 m (psort l).toArray os := by
  have h := AnyQ.slices_SortFunc_total Try.sortFunc 2 Try.isAgg32 Try.sizeOf32 Laid.enc (fun _ => rfl) (fun x v hv => by simp [Laid.enc] at hv; rcases hv with rfl | rfl <;> rfl) cf (by rw [ltOf_cf]; exact lt_swo) 20 #[] g 0 cap l.toArray w (enters_of Try.func20 (by kernel_rfl) rfl)
    (fun m os dk _ x y => order_lays x y _) (holds_own ho) hg (by simp; omega) (by rw [ltOf_cf]; exact lt_total)
  rw [ltOf_cf] at h
  have e : l.toArray.toList = l := rfl
  rw [e] at h
  exact h
theorem clone_walk (A0 : Option Addr) (c0 : Nat) (l : List S32) (w : World) (hr0 : Kd.C k32 w A0 l.length l) (hn : l.length ≤ 1000000) :
    Calls Try.prog 21 #[.slice A0 l.length c0] w fun e w' => ∃ v0_, e = .returned v0_ ∧ Kd.R k32 32 w' w.heap.size (fun _ => True) v0_ l ∧ Below w.heap.size w w' := by
  cases A0 with
  | none =>
    have h0 : l.length = 0 := by
      rcases Nat.eq_zero_or_pos l.length with h | h
      · exact h
      · obtain ⟨ad, he, _⟩ := hr0.2.2 h
        cases he
    obtain rfl := List.eq_nil_of_length_eq_zero h0
    have heq := fun W => Lib.run_eql_slice_nil (P := Try.prog) W 22 32 none 0 c0 0 0 Try.underlying22
    go_enter Try.func21, Try.ntmps21
    go_wp2
    go_ret
    exact ⟨_, rfl, Kd.R_nil _ _ _ _ _, Below.refl _ _⟩
  | some ad =>
    have HR0 := Aside0.mk hr0
    clear hr0
    have heq := fun W => Lib.run_eql_slice_nil (P := Try.prog) W 22 32 (some ad) l.length c0 0 0 Try.underlying22
    have HB := below_alloc (Below.refl w.heap.size w) (.cells #[] 32)
    have HL : Kd.R k32 32 (w.alloc (.cells #[] 32)) w.heap.size (fun _ => True) (.slice (some ⟨w.heap.size, 0, none⟩) 0 0) [] := ⟨fun _ _ => trivial, OwnRow.lit w w.heap.size (inner := []) (Reps.none _ _) (Nat.le_refl _) (by simp)⟩
    obtain ⟨v1, w1, hrun, h1, h2⟩ := run_rows 22 (some ad) l.length c0 l HL (Kd.C_below HR0.out HB) HB.size (by simp; omega)
    go_enter Try.func21, Try.ntmps21
    go_wp2_with (at_builtin; refine Lib.wpList_append_run _ (by rfl) (.tmp 5) (.tmp 6) 22 22 (by rfl) (.slice (some ⟨w.heap.size, 0, none⟩) 0 0) (.slice (some ad) l.length c0) (by rfl) (by rfl) v1 w1 hrun ?_)
    go_ret
    exact ⟨_, rfl, h1, HB.trans h2⟩
set_option maxHeartbeats 1000000 in
theorem sort_walk (A0 : Option Addr) (c0 : Nat) (l : List S32) (w : World) (hr0 : Kd.C k32 w A0 l.length l) (hn : l.length ≤ 1000000) :
    Calls Try.prog 11 #[.slice A0 l.length c0] w fun e w' => ∃ v0_, e = .returned v0_ ∧ Kd.R k32 32 w' w.heap.size (fun _ => True) v0_ (psort l) ∧ Below w.heap.size w w' := by
  have HR0 := Aside0.mk hr0
  clear hr0
  by_cases h0 : 0 < l.length
  · go_enter Try.func11, Try.ntmps11
    go_wp2_with (first
      | (go_at_call 21; refine (clone_walk A0 c0 l w HR0.out hn).mono ?_; rintro e w1 ⟨v, rfl, HV, hb⟩; obtain ⟨g, cap, rfl, hgb, hgl, _⟩ := Kd.R_form HV h0; have HV := Aside0.mk HV)
      | (go_at_call 22; refine (sortfunc_calls g cap w.heap.size l w1 (own_of_R HV.out) hgl hn).mono ?_; rintro e w2 ⟨rfl, m, os, rfl⟩))
    go_ret
    refine ⟨_, rfl, ?_, hb.trans (below_sorted hgb hgl m (psort l) os)⟩
    have hl : (psort l).length = l.length := List.length_mergeSort l
    have ho := own_sorted (own_of_R HV.out) hl m os
    have hR := R_of_own (v := .slice (some ⟨g, 0, none⟩) l.length cap) (xs := psort l) (by rw [hl]; exact ho)
    exact hR
  · have hl0 : l = [] := List.eq_nil_of_length_eq_zero (by omega)
    subst hl0
    go_enter Try.func11, Try.ntmps11
    go_wp2_with (first
      | (go_at_call 21; refine (clone_walk A0 c0 [] w HR0.out hn).mono ?_; rintro e w1 ⟨v, rfl, HV, hb⟩; obtain ⟨A, cap, rfl⟩ := Kd.R_slice HV; have HV := Aside0.mk HV)
      | (go_at_call 22; refine (AnyF.slices_SortFunc_none Try.sortFunc A cap (.func (.func 20) #[] #[]) w1).mono ?_; rintro e w2 ⟨rfl, rfl⟩))
    go_ret
    exact ⟨_, rfl, by rw [show psort [] = [] from by simp [psort]]; exact HV.out, hb⟩
def plan_Sort.f (l : List S32) : Option (List S32) := if l.length ≤ 1000000 then some (psort l) else none
set_option linter.unusedVariables false
theorem plan_Sort.calls (A0 : Option Addr) (c0 : Nat) (l0 : List S32) (r : List S32) (w : World) (hr0 : Kd.C k32 w A0 l0.length l0) (hc0 : l0.length ≤ c0) (h : plan_Sort.f l0 = some r) (hT0 : TabOk w) :
    Calls Try.prog 11 #[.slice A0 l0.length c0] w fun e w' => ∃ v0_, e = .returned v0_ ∧ Kd.R k32 32 w' w.heap.size (fun _ => True) v0_ r ∧ Below w.heap.size w w' := by
  unfold plan_Sort.f at h
  by_cases h1 : l0.length ≤ 1000000
  · rw [if_pos h1] at h
    obtain rfl := Option.some.inj h
    exact sort_walk A0 c0 l0 w hr0 h1
  · rw [if_neg h1] at h; cases h
end Go.Proofs.Ytboneknainlodaa.Giv
