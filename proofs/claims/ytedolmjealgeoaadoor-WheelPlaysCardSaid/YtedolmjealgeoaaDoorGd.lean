/- A ring in memory; New, is, Len, Mask, First, List as calls. Conditions: the ring lies in memory as told. -/
import Derived.Test.YtedolmjealgeoaaDoorGc
import Derived.Test.YtedolmjealgeoaaDoorGa
import Derived.Test.YtedolmjealgeoaaDoorGb
import Derived.Deep.RegionHeld3
import Derived.WalkArith
set_option linter.unusedVariables false
namespace Go.Proofs.YtedolmjealgeoaaDoor.Rg
open Go.RowKit Go.Maps Go.Proofs.YtedolmjealgeoaaDoor.PBase Go.Proofs.YtedolmjealgeoaaDoor.Cat Go.Proofs.YtedolmjealgeoaaDoorW.PrintWords Go.Proofs.YtedolmjealgeoaaDoorW.PrintLast Go.Proofs.YtedolmjealgeoaaDoorW.PrintMore
/-- What lies in a slot. -/
def atS (T : List S114) (j : Int) : List S31 := (T.filter (fun l => l.f0 == j)).map (·.f1)
/-- A number's slot. -/
def slotOf (T : List S114) (x : Int) : Option Int := (T.find? (fun l => l.f1.f0 == x)).map (·.f0)
def tid (T : List S114) : List Int := T.map (·.f1.f0)
structure PT (T : List S114) : Prop where
  nd : (tid T).Nodup
  sl : ∀ l ∈ T, 0 ≤ l.f0 ∧ l.f0 < 64
  wf : ∀ l ∈ T, (Lit.int .i64 l.f1.f0).wf = true
/-- A ring's cells. -/
def rcells (vs : Nat → Value) (m : Nat) (fu : Int) : Array Value := ((List.range 64).map vs ++ [Value.map (some m), Value.int .u64 fu]).toArray
theorem rc_at (vs : Nat → Value) (m : Nat) (fu : Int) {j : Nat} (hj : j < 64) : (rcells vs m fu)[j]? = some (vs j) := by
  unfold rcells
  rw [List.getElem?_toArray, List.getElem?_append_left (by simp; omega), List.getElem?_map, List.getElem?_range hj]
  rfl
theorem rc_map (vs : Nat → Value) (m : Nat) (fu : Int) : (rcells vs m fu)[64]? = some (.map (some m)) := by
  unfold rcells
  rw [List.getElem?_toArray, List.getElem?_append_right (by simp)]
  simp
theorem rc_full (vs : Nat → Value) (m : Nat) (fu : Int) : (rcells vs m fu)[65]? = some (.int .u64 fu) := by
  unfold rcells
  rw [List.getElem?_toArray, List.getElem?_append_right (by simp)]
  simp
def vput (vs : Nat → Value) (j : Nat) (v : Value) : Nat → Value := fun k => if k = j then v else vs k
theorem vput_same (vs : Nat → Value) (j : Nat) (v : Value) : vput vs j v j = v := if_pos rfl
theorem vput_other {vs : Nat → Value} {j k : Nat} {v : Value} (h : k ≠ j) : vput vs j v k = vs k := if_neg h
theorem rc_set (vs : Nat → Value) (m : Nat) (fu : Int) {j : Nat} (hj : j < 64) (v : Value) : (rcells vs m fu).setIfInBounds j v = rcells (vput vs j v) m fu := by
  unfold rcells
  rw [List.setIfInBounds_toArray, List.set_append_left _ _ (by simp; omega)]
  congr 2
  apply List.ext_getElem?
  intro k
  rw [List.getElem?_set, List.getElem?_map, List.getElem?_map]
  by_cases hk : j = k
  · subst hk
    rw [if_pos rfl, if_pos (by simp; omega), List.getElem?_range hj]
    simp [vput]
  · rw [if_neg hk]
    rcases Nat.lt_or_ge k 64 with h | h
    · rw [List.getElem?_range h]
      simp [vput, Ne.symm hk]
    · rw [List.getElem?_eq_none (by simp; omega)]
      rfl
theorem rc_setFull (vs : Nat → Value) (m : Nat) (fu fu2 : Int) : (rcells vs m fu).setIfInBounds 65 (.int .u64 fu2) = rcells vs m fu2 := by
  unfold rcells
  rw [List.setIfInBounds_toArray, List.set_append_right _ _ (by simp)]
  simp
/-- A ring in memory: its block R, the map's m, the slots' rows; F: its blocks. -/
structure RI (N : Nat) (F : Nat → Prop) (W : World) (R : Nat) (T : List S114) : Prop where
  pt : PT T
  ex : ∃ (m : Nat) (fu : Int) (vs : Nat → Value), W.heap[R]? = some (.cells (rcells vs m fu) 106 (0, 0)) ∧ MI .i64 3 W m (slotOf T) T.length ∧ Mk.U fu ∧ (∀ j : Nat, j < 64 → Mk.hs fu j = decide (atS T j ≠ [])) ∧
    (∀ j : Nat, j < 64 → Kd.R k31 31 W N (fun _ => True) (vs j) (psort (atS T j))) ∧ (∀ i j b : Nat, i < 64 → j < 64 → (vs i).ownBlock = some b → (vs j).ownBlock = some b → i = j) ∧ F m ∧ (∀ j b : Nat, j < 64 → (vs j).ownBlock = some b → F b)
  fr : F R
  lt : ∀ k, F k → N ≤ k ∧ k < W.heap.size
section
variable {N : Nat} {F : Nat → Prop} {W W' : World} {R : Nat} {T : List S114}
theorem RI.keep {G : Nat → Prop} (h : RI N F W R T) (hf : Fr G W W') (hG : ∀ k, F k → ¬ G k) : RI N F W' R T := by
  obtain ⟨h1, ⟨m, fu, vs, a1, a2, a3, a4, a5, a6, a7, a8⟩, h3, h4⟩ := h
  refine ⟨h1, ⟨m, fu, vs, (hf.blk R (h4 R h3).2 (hG R h3)).trans a1, a2.fr hf (hG m a7), a3, a4, fun j hj => ?_, a6, a7, a8⟩, h3, fun k hk => ⟨(h4 k hk).1, Nat.lt_of_lt_of_le (h4 k hk).2 hf.size⟩⟩
  have hR := Kd.R_tight2 rfl (a5 j hj)
  exact Kd.R_mono (Kd.R_kept hR (S := G) ⟨hf.size, fun i hi hn => hf.blk i hi hn⟩ (fun k hk => hG k (a8 j k hj hk.1.symm))) (fun _ _ => trivial)
theorem RI.step (h : RI N F W R T) (hb : Below W.heap.size W W') : RI N F W' R T := h.keep (Fr.of_below (F := fun _ => False) hb) (fun _ _ h => h)
theorem RI.len_le (h : RI N F W R T) (j : Int) : (psort (atS T j)).length ≤ T.length := by
  rw [psort_len]
  unfold atS
  rw [List.length_map]
  exact List.length_filter_le _ _
end
theorem PT.nil : PT [] := ⟨List.nodup_nil, fun l h => absurd h List.not_mem_nil, fun l h => absurd h List.not_mem_nil⟩
theorem rc_new (m : Nat) : rcells (fun _ => .slice none 0 0) m 0 = #[.slice none 0 0, .slice none 0 0, .slice none 0 0, .slice none 0 0, .slice none 0 0, .slice none 0 0, .slice none 0 0, .slice none 0 0, .slice none 0 0, .slice none 0 0, .slice none 0 0, .slice none 0 0, .slice none 0 0, .slice none 0 0, .slice none 0 0, .slice none 0 0, .slice none 0 0, .slice none 0 0, .slice none 0 0, .slice none 0 0, .slice none 0 0, .slice none 0 0, .slice none 0 0, .slice none 0 0, .slice none 0 0, .slice none 0 0, .slice none 0 0, .slice none 0 0, .slice none 0 0, .slice none 0 0, .slice none 0 0, .slice none 0 0, .slice none 0 0, .slice none 0 0, .slice none 0 0, .slice none 0 0, .slice none 0 0, .slice none 0 0, .slice none 0 0, .slice none 0 0, .slice none 0 0, .slice none 0 0, .slice none 0 0, .slice none 0 0, .slice none 0 0, .slice none 0 0, .slice none 0 0, .slice none 0 0, .slice none 0 0, .slice none 0 0, .slice none 0 0, .slice none 0 0, .slice none 0 0, .slice none 0 0, .slice none 0 0, .slice none 0 0, .slice none 0 0, .slice none 0 0, .slice none 0 0, .slice none 0 0, .slice none 0 0, .slice none 0 0, .slice none 0 0, .slice none 0 0, .map (some m), .int .u64 0] := rfl
theorem made_ring (W : World) : RI W.heap.size (fun k => k = W.heap.size ∨ k = W.heap.size + 1) ((W.alloc (.map #[] 0)).alloc (.cells (rcells (fun _ => .slice none 0 0) W.heap.size 0) 106)) (W.heap.size + 1) [] ∧ Below W.heap.size W ((W.alloc (.map #[] 0)).alloc (.cells (rcells (fun _ => .slice none 0 0) W.heap.size 0) 106)) := by
  have hs : (W.alloc (.map #[] 0)).heap.size = W.heap.size + 1 := by simp
  have hs2 : ((W.alloc (.map #[] 0)).alloc (.cells (rcells (fun _ => .slice none 0 0) W.heap.size 0) 106)).heap.size = W.heap.size + 2 := by simp
  have hb := below_alloc (Below.refl (W.alloc (.map #[] 0)).heap.size (W.alloc (.map #[] 0))) (.cells (rcells (fun _ => .slice none 0 0) W.heap.size 0) 106)
  refine ⟨⟨PT.nil, ⟨W.heap.size, 0, fun _ => .slice none 0 0, ?_, ?_, by unfold Mk.U; omega, fun j hj => ?_, fun j hj => ?_, fun i j b _ _ h => (by cases h), .inl rfl, fun j b _ h => (by cases h)⟩, .inr rfl, fun k hk => ?_⟩, below_alloc (below_alloc (Below.refl _ _) _) _⟩
  · rw [← hs]
    exact blk_new _ _
  · exact ((MI.made .i64 3 W).fr (F := fun _ => False) (Fr.of_below hb) (fun h => h)).congr (fun x => rfl)
  · unfold Mk.hs
    simp [atS]
  · rw [show psort (atS [] j) = [] from by simp [psort, atS]]
    exact Kd.R_nil _ _ _ _ _
  · rw [hs2]
    rcases hk with rfl | rfl <;> omega
set_option maxHeartbeats 4000000 in
set_option maxRecDepth 100000 in
theorem new_calls (W : World) : Calls Tryd.prog 13 #[] W fun e w' => ∃ R F, e = .returned (.pointer (some ⟨R, 0, none⟩)) ∧ RI W.heap.size F w' R [] ∧ Below W.heap.size W w' := by
  have hmm := @run_makeMap Tryd.prog
  have HH := Aside0.mk (made_ring W)
  rw [rc_new] at HH
  go_enter Tryd.func13, Tryd.ntmps13
  go_wp2
  go_ret
  exact ⟨_, rfl, ⟨_, HH.out.1⟩, HH.out.2⟩
set_option maxHeartbeats 4000000 in
set_option maxRecDepth 100000 in
theorem is_calls (W : World) (B : Nat) (slot : Int) (r : Bool) (hr : decide (0 ≤ slot ∧ slot < 64) = r) : Calls Tryd.prog 57 #[.pointer (some ⟨B, 0, none⟩), .int .i64 slot] W fun e w' => e = .returned (.bool r) ∧ Below W.heap.size W w' := by
  by_cases h1 : 0 ≤ slot
  · by_cases h2 : slot < 64
    · obtain rfl : r = true := by rw [← hr]; simp [h1, h2]
      clear hr
      go_enter Tryd.func57, Tryd.ntmps57
      go_wp2
      go_ret
      exact ⟨rfl, Below.refl _ _⟩
    · obtain rfl : r = false := by rw [← hr]; simp [h2]
      clear hr
      go_enter Tryd.func57, Tryd.ntmps57
      go_wp2
      go_ret
      exact ⟨rfl, Below.refl _ _⟩
  · obtain rfl : r = false := by rw [← hr]; simp [h1]
    clear hr
    go_enter Tryd.func57, Tryd.ntmps57
    go_wp2
    go_ret
    exact ⟨rfl, Below.refl _ _⟩
theorem is_nil (W : World) (slot : Int) : Calls Tryd.prog 57 #[.pointer none, .int .i64 slot] W fun e w' => e = .returned (.bool false) ∧ Below W.heap.size W w' := by
  go_enter Tryd.func57, Tryd.ntmps57
  go_wp2
  go_ret
  exact ⟨rfl, Below.refl _ _⟩
section
variable {N : Nat} {F : Nat → Prop} {W W' : World} {R : Nat} {T : List S114}
set_option maxHeartbeats 4000000 in
set_option maxRecDepth 100000 in
theorem len_calls (h : RI N F W R T) : Calls Tryd.prog 25 #[.pointer (some ⟨R, 0, none⟩)] W fun e w' => e = .returned (.int .i64 T.length) ∧ Below W.heap.size W w' := by
  obtain ⟨h1, ⟨m, fu, vs, a1, a2, a3, a4, a5, a6, a7, a8⟩, h3, h4⟩ := h
  have c1 : W.cell? ⟨R, 64, none⟩ = some (.map (some m)) := (blk_cell a1 64).trans (rc_map _ _ _)
  have hlen := fun ty => a2.len ek3 ty
  clear a1 a2 a3 a4 a5 a6 a7 a8 h1 h4
  go_enter Tryd.func25, Tryd.ntmps25
  go_wp2
  go_ret
  exact ⟨rfl, Below.refl _ _⟩
theorem len_nil (W : World) : Calls Tryd.prog 25 #[.pointer none] W fun e w' => e = .returned (.int .i64 0) ∧ Below W.heap.size W w' := by
  go_enter Tryd.func25, Tryd.ntmps25
  go_wp2
  go_ret
  exact ⟨rfl, Below.refl _ _⟩
set_option maxHeartbeats 4000000 in
set_option maxRecDepth 100000 in
theorem mask_calls (h : RI N F W R T) : Calls Tryd.prog 28 #[.pointer (some ⟨R, 0, none⟩)] W fun e w' => ∃ fu, e = .returned (.int .u64 fu) ∧ Mk.U fu ∧ (∀ j : Nat, j < 64 → Mk.hs fu j = decide (atS T j ≠ [])) ∧ Below W.heap.size W w' := by
  obtain ⟨h1, ⟨m, fu, vs, a1, a2, a3, a4, a5, a6, a7, a8⟩, h3, h4⟩ := h
  have c1 : W.cell? ⟨R, 65, none⟩ = some (.int .u64 fu) := (blk_cell a1 65).trans (rc_full _ _ _)
  have HH := Aside0.mk (And.intro a3 a4)
  clear a1 a2 a3 a4 a5 a6 a7 a8 h1 h4
  go_enter Tryd.func28, Tryd.ntmps28
  go_wp2
  go_ret
  exact ⟨fu, rfl, HH.out.1, HH.out.2, Below.refl _ _⟩
theorem mask_nil (W : World) : Calls Tryd.prog 28 #[.pointer none] W fun e w' => e = .returned (.int .u64 0) ∧ Below W.heap.size W w' := by
  go_enter Tryd.func28, Tryd.ntmps28
  go_wp2
  go_ret
  exact ⟨rfl, Below.refl _ _⟩
/-- First: the table's cells are asked. -/
theorem first_calls (h : RI N F W R T) (hT : Tz.TabOk W) (slot : Int) : Calls Tryd.prog 26 #[.pointer (some ⟨R, 0, none⟩), .int .i64 slot] W fun e w' => ∃ fu r, e = .returned (.tuple #[.int .i64 r.1, .bool r.2]) ∧ Mk.U fu ∧ (∀ j : Nat, j < 64 → Mk.hs fu j = decide (atS T j ≠ [])) ∧ Mk.IsRound fu slot r ∧ Below W.heap.size W w' := by
  have HT := Aside0.mk hT
  have H := Aside0.mk h
  clear h hT
  go_enter Tryd.func26, Tryd.ntmps26
  go_wp2_with (first
    | (go_at_call 28; refine (mask_calls H.out).mono ?_; rintro e w1 ⟨fu, rfl, hU, hh, hb1⟩; obtain ⟨r, hr, hi⟩ := Mk.round hU slot; replace hh := Aside0.mk hh; replace hr := Aside0.mk hr; replace hi := Aside0.mk hi)
    | (go_at_call 70; refine (mask_Round.calls fu slot r.1 r.2 _ hr.out (HT.out.below hb1)).mono ?_; rintro e w2 ⟨rfl, hb2⟩))
  go_ret2
  exact ⟨fu, r, rfl, hU, hh.out, hi.out, below_step hb1 hb2⟩
set_option maxHeartbeats 4000000 in
set_option maxRecDepth 100000 in
theorem list_calls (h : RI N F W R T) (j : Nat) (hj : j < 64) (hl : T.length ≤ 1000000) : Calls Tryd.prog 22 #[.pointer (some ⟨R, 0, none⟩), .int .i64 j] W fun e w' => ∃ v, e = .returned v ∧ Kd.R k31 31 w' W.heap.size (fun _ => True) v (psort (atS T j)) ∧ Below W.heap.size W w' := by
  have hle := h.len_le (j : Int)
  obtain ⟨h1, ⟨m, fu, vs, a1, a2, a3, a4, a5, a6, a7, a8⟩, h3, h4⟩ := h
  have c1 : W.cell? ⟨R, j, none⟩ = some (vs j) := (blk_cell a1 j).trans (rc_at _ _ _ hj)
  obtain ⟨A, c, e0, hc, hC⟩ := Kd.R_reads (a5 j hj)
  rw [e0] at c1
  have HC := Aside0.mk hC
  have hj2 : (j : Int) < 64 := by omega
  have hj3 : (0 : Int) ≤ (j : Int) := by omega
  clear a1 a2 a3 a4 a5 a6 a7 a8 h1 h4 e0 hC hc
  go_enter Tryd.func22, Tryd.ntmps22
  go_wp2_with (first
    | (go_at_call 57; refine (is_calls _ R j true (by simp; omega)).mono ?_; rintro e w1 ⟨rfl, hb1⟩; have c2 := (hb1.cell (World.block_lt_of_cell? W _ c1)).trans c1)
    | (go_at_call 67; refine (clone_walk A c (psort (atS T j)) _ (Kd.C_below HC.out hb1) (by omega)).mono ?_; rintro e w2 ⟨v, rfl, hR, hb2⟩))
  go_ret
  exact ⟨_, rfl, Kd.R_lower hR hb1.size, below_step hb1 hb2⟩
theorem list_out (h : RI N F W R T) (slot : Int) (hj : ¬ (0 ≤ slot ∧ slot < 64)) : Calls Tryd.prog 22 #[.pointer (some ⟨R, 0, none⟩), .int .i64 slot] W fun e w' => e = .returned (.slice none 0 0) ∧ Below W.heap.size W w' := by
  go_enter Tryd.func22, Tryd.ntmps22
  go_wp2_with (go_at_call 57; refine (is_calls _ R slot false (by simpa using hj)).mono ?_; rintro e w1 ⟨rfl, hb1⟩)
  go_ret
  exact ⟨rfl, hb1⟩
theorem list_nil (W : World) (slot : Int) : Calls Tryd.prog 22 #[.pointer none, .int .i64 slot] W fun e w' => e = .returned (.slice none 0 0) ∧ Below W.heap.size W w' := by
  go_enter Tryd.func22, Tryd.ntmps22
  go_wp2_with (go_at_call 57; refine (is_nil _ slot).mono ?_; rintro e w1 ⟨rfl, hb1⟩)
  go_ret
  exact ⟨rfl, hb1⟩
end
end Go.Proofs.YtedolmjealgeoaaDoor.Rg

set_option linter.unusedVariables false
namespace Go.Proofs.YtedolmjealgeoaaDoor.Rg
open Go.RowKit Go.Maps Go.Proofs.YtedolmjealgeoaaDoor.PBase Go.Proofs.YtedolmjealgeoaaDoor.Cat Go.Proofs.YtedolmjealgeoaaDoorW.PrintWords Go.Proofs.YtedolmjealgeoaaDoorW.PrintLast Go.Proofs.YtedolmjealgeoaaDoorW.PrintMore
theorem slotOf_cons (l : S114) (T : List S114) (x : Int) : slotOf (l :: T) x = if l.f1.f0 = x then some l.f0 else slotOf T x := by
  unfold slotOf
  by_cases h : l.f1.f0 = x
  · rw [List.find?_cons_of_pos (by simpa using h), if_pos h]
    rfl
  · rw [List.find?_cons_of_neg (by simpa using h), if_neg h]
theorem slotOf_none {T : List S114} {x : Int} : slotOf T x = none ↔ x ∉ tid T := by
  induction T with
  | nil => simp [slotOf, tid]
  | cons l T ih =>
    rw [slotOf_cons]
    by_cases h : l.f1.f0 = x
    · rw [if_pos h]
      simp [tid, h]
    · rw [if_neg h, ih]
      simp [tid, Ne.symm h]
theorem slotOf_mem {T : List S114} (h : (tid T).Nodup) {l : S114} (hl : l ∈ T) : slotOf T l.f1.f0 = some l.f0 := by
  induction T with
  | nil => exact absurd hl List.not_mem_nil
  | cons a T ih =>
    rw [slotOf_cons]
    have hn := List.nodup_cons.1 h
    rcases List.mem_cons.1 hl with rfl | hl
    · rw [if_pos rfl]
    · have : a.f1.f0 ≠ l.f1.f0 := fun e => hn.1 (List.mem_map.2 ⟨l, hl, e.symm⟩)
      rw [if_neg this, ih hn.2 hl]
theorem slotOf_get {T : List S114} {x j : Int} (h : slotOf T x = some j) : ∃ l ∈ T, l.f1.f0 = x ∧ l.f0 = j := by
  unfold slotOf at h
  obtain ⟨l, h1, h2⟩ := Option.map_eq_some_iff.1 h
  exact ⟨l, List.mem_of_find?_eq_some h1, by simpa using List.find?_some h1, h2⟩
theorem tid_in {T : List S114} {x : Int} : x ∈ tid T ↔ ∃ l ∈ T, l.f1.f0 = x := by simp [tid]
theorem slotOf_perm {T U : List S114} (h : T.Perm U) (hn : (tid T).Nodup) (x : Int) : slotOf T x = slotOf U x := by
  have hn2 : (tid U).Nodup := (h.map _).nodup_iff.1 hn
  by_cases hx : x ∈ tid T
  · obtain ⟨l, hl, rfl⟩ := tid_in.1 hx
    rw [slotOf_mem hn hl, slotOf_mem hn2 (h.mem_iff.1 hl)]
  · rw [slotOf_none.2 hx, slotOf_none.2 (fun e => hx ((h.map _).mem_iff.2 e))]
theorem PT.perm {T U : List S114} (p : PT T) (h : T.Perm U) : PT U := ⟨(h.map _).nodup_iff.1 p.nd, fun l hl => p.sl l (h.mem_iff.2 hl), fun l hl => p.wf l (h.mem_iff.2 hl)⟩
theorem atS_perm {T U : List S114} (h : T.Perm U) (j : Int) : (atS T j).Perm (atS U j) := (h.filter _).map _
theorem atS_nil {T U : List S114} (h : T.Perm U) (j : Int) : decide (atS T j ≠ []) = decide (atS U j ≠ []) := by
  rw [decide_eq_decide]
  have := (atS_perm h j)
  constructor
  · intro h1 h2
    rw [h2, List.perm_nil] at this
    exact h1 this
  · intro h1 h2
    rw [h2] at this
    exact h1 (List.nil_perm.1 this)
theorem RI.perm {N : Nat} {F : Nat → Prop} {W : World} {R : Nat} {T U : List S114} (h : RI N F W R T) (hp : T.Perm U) : RI N F W R U := by
  obtain ⟨h1, ⟨m, fu, vs, a1, a2, a3, a4, a5, a6, a7, a8⟩, h3, h4⟩ := h
  refine ⟨h1.perm hp, ⟨m, fu, vs, a1, ?_, a3, fun j hj => (a4 j hj).trans (atS_nil hp j), fun j hj => ?_, a6, a7, a8⟩, h3, h4⟩
  · rw [← hp.length_eq]
    exact a2.congr (fun x => slotOf_perm hp h1.nd x)
  · rw [← psort_congr (atS_perm hp j)]
    exact a5 j hj
theorem atS_cons (l : S114) (T : List S114) (j : Int) : atS (l :: T) j = if l.f0 = j then l.f1 :: atS T j else atS T j := by
  unfold atS
  by_cases h : l.f0 = j
  · rw [List.filter_cons_of_pos (by simpa using h), if_pos h]
    rfl
  · rw [List.filter_cons_of_neg (by simpa using h), if_neg h]
theorem atS_ids {T : List S114} {j x : Int} (h : x ∈ ids (atS T j)) : x ∈ tid T := by
  obtain ⟨d, hd, rfl⟩ := List.mem_map.1 h
  obtain ⟨l, hl, rfl⟩ := List.mem_map.1 hd
  exact tid_in.2 ⟨l, (List.mem_filter.1 hl).1, rfl⟩
/-- One more. -/
theorem PT.put {T : List S114} (p : PT T) {j : Int} {d : S31} (hj : 0 ≤ j ∧ j < 64) (hd : d.f0 ∉ tid T) (hw : (Lit.int .i64 d.f0).wf = true) : PT (⟨j, d⟩ :: T) := by
  refine ⟨List.nodup_cons.2 ⟨hd, p.nd⟩, fun l hl => ?_, fun l hl => ?_⟩
  · rcases List.mem_cons.1 hl with rfl | hl
    · exact hj
    · exact p.sl l hl
  · rcases List.mem_cons.1 hl with rfl | hl
    · exact hw
    · exact p.wf l hl
theorem slotOf_put {T : List S114} {j : Int} {d : S31} (x : Int) : slotOf (⟨j, d⟩ :: T) x = upd (slotOf T) d.f0 (some j) x := by
  rw [slotOf_cons]
  unfold upd
  by_cases h : d.f0 = x
  · rw [if_pos h, if_pos h.symm]
  · rw [if_neg h, if_neg (Ne.symm h)]
theorem hs_put {T : List S114} {fu : Int} (j : Nat) (hj : j < 64) (d : S31) (h : ∀ j : Nat, j < 64 → Mk.hs fu j = decide (atS T j ≠ [])) (k : Nat) (hk : k < 64) : Mk.hs (Mk.wi fu j) k = decide (atS (⟨j, d⟩ :: T) k ≠ []) := by
  rw [Mk.hs_with, h k hk, atS_cons]
  by_cases e : k = j
  · subst e
    rw [if_pos rfl]
    simp
    omega
  · rw [if_neg (by simp; omega)]
    have : ¬ (k : Int) = (j : Int) := by omega
    simp [this]
/-- One less. -/
def dropT (T : List S114) (id : Int) : List S114 := T.filter (fun l => !(l.f1.f0 == id))
theorem tid_drop {T : List S114} {id x : Int} : x ∈ tid (dropT T id) ↔ x ∈ tid T ∧ x ≠ id := by
  rw [tid_in, tid_in]
  constructor
  · rintro ⟨l, hl, rfl⟩
    have := List.mem_filter.1 hl
    exact ⟨⟨l, this.1, rfl⟩, by simpa using this.2⟩
  · rintro ⟨⟨l, hl, rfl⟩, h⟩
    exact ⟨l, List.mem_filter.2 ⟨hl, by simpa using h⟩, rfl⟩
theorem PT.drop {T : List S114} (p : PT T) (id : Int) : PT (dropT T id) :=
  ⟨p.nd.sublist (List.filter_sublist.map _), fun l hl => p.sl l (List.mem_filter.1 hl).1, fun l hl => p.wf l (List.mem_filter.1 hl).1⟩
theorem slotOf_drop {T : List S114} (p : PT T) (id x : Int) : slotOf (dropT T id) x = upd (slotOf T) id none x := by
  unfold upd
  by_cases h : x = id
  · rw [if_pos h, slotOf_none, tid_drop]
    exact fun e => e.2 h
  · rw [if_neg h]
    by_cases hx : x ∈ tid T
    · obtain ⟨l, hl, rfl⟩ := tid_in.1 hx
      rw [slotOf_mem p.nd hl, slotOf_mem (p.drop id).nd (List.mem_filter.2 ⟨hl, by simpa using h⟩)]
    · rw [slotOf_none.2 hx, slotOf_none, tid_drop]
      exact fun e => hx e.1
theorem atS_drop (T : List S114) (id j : Int) : atS (dropT T id) j = rm (atS T j) id := by
  unfold atS dropT rm
  rw [List.filter_filter, List.filter_map, List.filter_filter]
  congr 1
  apply List.filter_congr
  intro l _
  rw [Bool.and_comm]
  rfl
theorem rm_none {L : List S31} {id : Int} (h : id ∉ ids L) : rm L id = L := List.filter_eq_self.2 (fun y hy => by
  have : y.f0 ≠ id := fun e => h (by rw [← e]; exact List.mem_map.2 ⟨y, hy, rfl⟩)
  simpa using this)
theorem atS_other {T : List S114} (p : PT T) {l : S114} (hl : l ∈ T) {i : Int} (hi : i ≠ l.f0) : l.f1.f0 ∉ ids (atS T i) := by
  intro h
  obtain ⟨d, hd, e⟩ := List.mem_map.1 h
  obtain ⟨a, ha, rfl⟩ := List.mem_map.1 hd
  have ha2 := List.mem_filter.1 ha
  have h1 := slotOf_mem p.nd ha2.1
  rw [e, slotOf_mem p.nd hl] at h1
  have h3 : a.f0 = i := by simpa using ha2.2
  exact hi (by rw [← h3]; exact (Option.some.inj h1).symm)
theorem drop_len {T : List S114} (p : PT T) {l : S114} (hl : l ∈ T) : (dropT T l.f1.f0).length = T.length - 1 := by
  have hn := p.nd
  clear p
  induction T with
  | nil => exact absurd hl List.not_mem_nil
  | cons a T ih =>
    have hn2 := List.nodup_cons.1 hn
    unfold dropT
    rcases List.mem_cons.1 hl with rfl | hl
    · rw [List.filter_cons_of_neg (by simp), List.filter_eq_self.2 (fun y hy => ?_)]
      · simp
      · have : y.f1.f0 ≠ l.f1.f0 := fun e => hn2.1 (List.mem_map.2 ⟨y, hy, e⟩)
        simpa using this
    · have : a.f1.f0 ≠ l.f1.f0 := fun e => hn2.1 (List.mem_map.2 ⟨l, hl, e.symm⟩)
      rw [List.filter_cons_of_pos (by simpa using this), List.length_cons]
      have := ih hl hn2.2
      unfold dropT at this
      rw [this, List.length_cons]
      have : 0 < T.length := List.length_pos_of_mem hl
      omega
theorem drop_none {T : List S114} {id : Int} (h : id ∉ tid T) : dropT T id = T := List.filter_eq_self.2 (fun y hy => by
  have : y.f1.f0 ≠ id := fun e => h (by rw [← e]; exact List.mem_map.2 ⟨y, hy, rfl⟩)
  simpa using this)
end Go.Proofs.YtedolmjealgeoaaDoor.Rg

set_option linter.unusedVariables false
namespace Go.Proofs.YtedolmjealgeoaaDoor.Rg
open Go.RowKit Go.Maps Go.Proofs.YtedolmjealgeoaaDoor.PBase Go.Proofs.YtedolmjealgeoaaDoor.Cat Go.Proofs.YtedolmjealgeoaaDoorW.PrintWords Go.Proofs.YtedolmjealgeoaaDoorW.PrintLast Go.Proofs.YtedolmjealgeoaaDoorW.PrintMore
theorem wf_slot {j : Nat} (hj : j < 64) : (Lit.int .i64 (j : Int)).wf = true  := Go.WalkArith.wf_i64 (by omega)
/-- Where a call leaves a ring. -/
def RGo (N : Nat) (F : Nat → Prop) (W w' : World) (R : Nat) (T : List S114) : Prop := ∃ F', RI N F' w' R T ∧ (∀ k, F' k → F k ∨ W.heap.size ≤ k) ∧ Fr F W w'
/-- The rows' blocks are none of the ring's and the map's. -/
theorem own_apart {N : Nat} {W : World} {R m : Nat} {cs : Array Value} {q : IntKind} {e : TypeId} {f : Int → Option Int} {c : Nat} {ok : Nat → Prop} {v : Value} {L : List S31} (hR : W.heap[R]? = some (.cells cs 106 (0, 0))) (hM : MI q e W m f c) (h : Kd.R k31 31 W N ok v L) (b : Nat) (hb : v.ownBlock = some b) : b < W.heap.size ∧ b ≠ R ∧ b ≠ m := by
  obtain ⟨cells, hcell⟩ := own_typed (own_of_R h) b hb
  refine ⟨blk_lt hcell, fun e => ?_, fun e => ?_⟩
  · rw [e, hR] at hcell
    injection hcell with hcell
    injection hcell with _ hcell
    cases hcell
  · obtain ⟨es, ck, hbm⟩ := hM.blk
    rw [e, hbm] at hcell
    cases hcell
/-- A slot's row turned, the map, the mask: the ring behind it. -/
theorem RI.rebuild {N : Nat} {F : Nat → Prop} {W w' : World} {R : Nat} {T T' : List S114} {m : Nat} {fu fu' : Int} {vs : Nat → Value} {j : Nat} {v1 : Value} (hF : F R) (lt : ∀ k, F k → N ≤ k ∧ k < W.heap.size) (hR0 : W.heap[R]? = some (.cells (rcells vs m fu) 106 (0, 0))) (hM0 : MI .i64 3 W m (slotOf T) T.length)
    (a5 : ∀ j : Nat, j < 64 → Kd.R k31 31 W N (fun _ => True) (vs j) (psort (atS T j))) (a6 : ∀ i j b : Nat, i < 64 → j < 64 → (vs i).ownBlock = some b → (vs j).ownBlock = some b → i = j) (a7 : F m) (a8 : ∀ j b : Nat, j < 64 → (vs j).ownBlock = some b → F b) (hj : j < 64)
    (hf : Fr (fun k => k = R ∨ k = m ∨ (vs j).ownBlock = some k) W w') (hR : w'.heap[R]? = some (.cells (rcells (vput vs j v1) m fu') 106 (0, 0))) (hM : MI .i64 3 w' m (slotOf T') T'.length) (hU : Mk.U fu') (hh : ∀ j : Nat, j < 64 → Mk.hs fu' j = decide (atS T' j ≠ []))
    (hrow : Kd.R k31 31 w' N (fun _ => True) v1 (psort (atS T' j))) (hAt : v1.ownBlock = (vs j).ownBlock ∨ ∃ b, v1.ownBlock = some b ∧ W.heap.size ≤ b) (hpt : PT T') (ho : ∀ i : Nat, i < 64 → i ≠ j → psort (atS T' i) = psort (atS T i)) : RGo N F W w' R T' := by
  refine ⟨fun k => F k ∨ v1.ownBlock = some k, ⟨hpt, ⟨m, fu', vput vs j v1, hR, hM, hU, hh, fun i hi => ?_, fun i i' b hi hi' e e' => ?_, .inl a7, fun i b hi e => ?_⟩, .inl hF, fun k hk => ?_⟩, fun k hk => ?_, hf.weak (fun k hk => ?_)⟩
  · by_cases e : i = j
    · subst e
      rw [vput_same]
      exact hrow
    · rw [vput_other e, ho i hi e]
      have h1 := Kd.R_tight2 rfl (a5 i hi)
      refine Kd.R_mono (Kd.R_kept h1 (S := fun k => k = R ∨ k = m ∨ (vs j).ownBlock = some k) ⟨hf.size, fun i hi hn => hf.blk i hi hn⟩ (fun k hk => ?_)) (fun _ _ => trivial)
      rintro (hk2 | hk2 | hk2)
      · exact (own_apart hR0 hM0 (a5 i hi) k hk.1.symm).2.1 hk2
      · exact (own_apart hR0 hM0 (a5 i hi) k hk.1.symm).2.2 hk2
      · exact e (a6 i j k hi hj hk.1.symm hk2)
  · by_cases e1 : i = j
    · by_cases e2 : i' = j
      · omega
      · rw [e1, vput_same] at e
        rw [vput_other e2] at e'
        rcases hAt with ha | ⟨b', ha, hb⟩
        · rw [ha] at e
          exact e1.trans (a6 j i' b hj hi' e e')
        · rw [ha] at e
          injection e with e
          have := (own_apart hR0 hM0 (a5 i' hi') b e').1
          omega
    · by_cases e2 : i' = j
      · rw [e2, vput_same] at e'
        rw [vput_other e1] at e
        rcases hAt with ha | ⟨b', ha, hb⟩
        · rw [ha] at e'
          exact (a6 i j b hi hj e e').trans e2.symm
        · rw [ha] at e'
          injection e' with e'
          have := (own_apart hR0 hM0 (a5 i hi) b e).1
          omega
      · rw [vput_other e1] at e
        rw [vput_other e2] at e'
        exact a6 i i' b hi hi' e e'
  · by_cases e1 : i = j
    · rw [e1, vput_same] at e
      exact .inr e
    · rw [vput_other e1] at e
      exact .inl (a8 i b hi e)
  · rcases hk with hk | hk
    · exact ⟨(lt k hk).1, Nat.lt_of_lt_of_le (lt k hk).2 hf.size⟩
    · exact ⟨own_base (own_of_R hrow) k hk, own_lt (own_of_R hrow) k hk⟩
  · rcases hk with hk | hk
    · exact .inl hk
    · rcases hAt with ha | ⟨b, ha, hb⟩
      · rw [ha] at hk
        exact .inl (a8 j k hj hk)
      · rw [ha] at hk
        injection hk with hk
        exact .inr (hk ▸ hb)
  · rcases hk with rfl | rfl | hk
    · exact hF
    · exact a7
    · exact a8 j k hj hk
theorem W10 {w w' : World} (h : Below w.heap.size w w') : Below w.heap.size w w' := h
section
variable {N : Nat} {F : Nat → Prop} {W : World} {R : Nat} {T : List S114}
theorem put_out (h : RI N F W R T) (slot : Int) (d : S31) (hj : ¬ (0 ≤ slot ∧ slot < 64)) : Calls Tryd.prog 15 #[.pointer (some ⟨R, 0, none⟩), .int .i64 slot, .agg #[.int .i64 d.f0, .int .u64 d.f1]] W fun e w' => e = .returned (.bool false) ∧ Below W.heap.size W w' := by
  have hbx : Below W.heap.size W (W.alloc (.cells #[.int .i64 d.f0, .int .u64 d.f1] 31)) := below_alloc (Below.refl _ _) _
  go_enter Tryd.func15, Tryd.ntmps15
  go_wp2_with (go_at_call 57; refine (is_calls _ R slot false (by simpa using hj)).mono ?_; rintro e w1 ⟨rfl, hb1⟩)
  go_ret
  exact ⟨rfl, below_step hbx hb1⟩
theorem put_nil (W : World) (slot : Int) (d : S31) : Calls Tryd.prog 15 #[.pointer none, .int .i64 slot, .agg #[.int .i64 d.f0, .int .u64 d.f1]] W fun e w' => e = .returned (.bool false) ∧ Below W.heap.size W w' := by
  have hbx : Below W.heap.size W (W.alloc (.cells #[.int .i64 d.f0, .int .u64 d.f1] 31)) := below_alloc (Below.refl _ _) _
  go_enter Tryd.func15, Tryd.ntmps15
  go_wp2_with (go_at_call 57; refine (is_nil _ slot).mono ?_; rintro e w1 ⟨rfl, hb1⟩)
  go_ret
  exact ⟨rfl, below_step hbx hb1⟩
set_option maxHeartbeats 4000000 in
set_option maxRecDepth 100000 in
theorem put_twice (h : RI N F W R T) (j : Nat) (hj : j < 64) (d : S31) (hd : d.f0 ∈ tid T) (hw : (Lit.int .i64 d.f0).wf = true) : Calls Tryd.prog 15 #[.pointer (some ⟨R, 0, none⟩), .int .i64 j, .agg #[.int .i64 d.f0, .int .u64 d.f1]] W fun e w' => e = .returned (.bool false) ∧ Below W.heap.size W w' := by
  obtain ⟨l, hl, hld⟩ := tid_in.1 hd
  obtain ⟨h1, ⟨m, fu, vs, a1, a2, a3, a4, a5, a6, a7, a8⟩, h3, h4⟩ := h
  have es : slotOf T d.f0 = some l.f0 := by rw [← hld]; exact slotOf_mem h1.nd hl
  have hbx : Below W.heap.size W (W.alloc (.cells #[.int .i64 d.f0, .int .u64 d.f1] 31)) := below_alloc (Below.refl _ _) _
  have hx := blk_new W (.cells #[.int .i64 d.f0, .int .u64 d.f1] 31)
  have HM := Aside0.mk a2
  have HR := Aside0.mk a1
  have hj2 : (j : Int) < 64 := by omega
  clear a1 a2 a3 a4 a5 a6 a7 a8 h1 h4 hd hl hld
  go_enter Tryd.func15, Tryd.ntmps15
  go_upto_region 3 with (go_at_call 57; refine (is_calls _ R j true (by simp; omega)).mono ?_; rintro e w1 ⟨rfl, hb1⟩; have hb := Aside0.mk (below_step hbx hb1); have hx1 := blk_below hx hb1)
  have hR1 := blk_below HR.out hb.out
  have c1 : w1.cell? ⟨R, 64, none⟩ = some (.map (some m)) := (blk_cell hR1 64).trans (rc_map _ _ _)
  have x0 : w1.cell? ⟨W.heap.size, 0, none⟩ = some (.int .i64 d.f0) := (blk_cell hx1 0).trans rfl
  have hlook := (HM.out.fr (F := fun _ => False) (Fr.of_below hb.out) (fun h => h)).look ek3 hw
  rw [es] at hlook
  clear hR1 hx1 hb1 hx hbx es
  go_quiet (fail)
  go_wp2
  go_ret
  exact ⟨rfl, by repeat (first | exact hb.out | apply pw_below_drewN | apply below_drew1)⟩
set_option maxHeartbeats 4000000 in
set_option maxRecDepth 100000 in
theorem put_calls (h : RI N F W R T) (j : Nat) (hj : j < 64) (d : S31) (hd : d.f0 ∉ tid T) (hw : (Lit.int .i64 d.f0).wf = true) (hl : T.length ≤ 100000) : Calls Tryd.prog 15 #[.pointer (some ⟨R, 0, none⟩), .int .i64 j, .agg #[.int .i64 d.f0, .int .u64 d.f1]] W fun e w' => e = .returned (.bool true) ∧ Aside0 (RGo N F W w' R (⟨j, d⟩ :: T)) := by
  have hle := h.len_le (j : Int)
  have es := slotOf_none.2 hd
  have es2 := Aside0.mk es
  have hd2 := Aside0.mk hd
  obtain ⟨h1, ⟨m, fu, vs, a1, a2, a3, a4, a5, a6, a7, a8⟩, h3, h4⟩ := h
  obtain ⟨A, c, e0, hc, hC⟩ := Kd.R_reads (a5 j hj)
  have e1 : rcells vs m fu = rcells (vput vs j (.slice A (psort (atS T j)).length c)) m fu := by rw [← e0]; congr 1; funext k; unfold vput; split <;> simp_all
  have hbx : Below W.heap.size W (W.alloc (.cells #[.int .i64 d.f0, .int .u64 d.f1] 31)) := below_alloc (Below.refl _ _) _
  have hx := blk_new W (.cells #[.int .i64 d.f0, .int .u64 d.f1] 31)
  have HM := Aside0.mk a2
  have HR := Aside0.mk a1
  have HU := Aside0.mk (And.intro a3 a4)
  have HA := Aside0.mk (And.intro h4 (And.intro a5 (And.intro a6 (And.intro a7 a8))))
  have HP := Aside0.mk h1
  have HV := Aside0.mk (a5 j hj)
  rw [e0] at HV
  have hRl : Aside0 (R < W.heap.size) := ⟨(h4 R h3).2⟩
  have hmR : Aside0 (m < W.heap.size ∧ m ≠ R) := ⟨a2.lt, fun e => by obtain ⟨es, ck, hb⟩ := a2.blk; rw [e, a1] at hb; cases hb⟩
  have hvb : Aside0 (∀ b, (vs j).ownBlock = some b → b < W.heap.size ∧ b ≠ R ∧ b ≠ m) := ⟨fun b hb => by
    have hlt := (h4 b (a8 j b hj hb)).2
    obtain ⟨cells, hcell⟩ := own_typed (own_of_R (a5 j hj)) b hb
    refine ⟨hlt, fun e => ?_, fun e => ?_⟩
    · rw [e, a1] at hcell
      injection hcell with hcell
      injection hcell with _ hcell
      cases hcell
    · obtain ⟨es, ck, hbm⟩ := a2.blk
      rw [e, hbm] at hcell
      cases hcell⟩
  rw [e0] at hvb
  have HC := Aside0.mk hC
  have E0 := Aside0.mk e0
  have E1 := Aside0.mk e1
  have hj2 : (j : Int) < 64 := by omega
  clear a1 a2 a3 a4 a5 a6 a7 a8 h1 h4 hd e0 e1 hC
  obtain ⟨L, hL⟩ : ∃ L, psort (atS T j) = L := ⟨_, rfl⟩
  rw [hL] at HV hvb HC E0 E1 hle hc
  have HL := Aside0.mk hL
  clear hL
  go_enter Tryd.func15, Tryd.ntmps15
  go_upto_region 3 with (go_at_call 57; refine (is_calls _ R j true (by simp; omega)).mono ?_; rintro e w1 ⟨rfl, hb1⟩; have hb := Aside0.mk (below_step hbx hb1); have hx1 := blk_below hx hb1)
  have hR1 := blk_below HR.out hb.out
  have c1 : w1.cell? ⟨R, 64, none⟩ = some (.map (some m)) := (blk_cell hR1 64).trans (rc_map _ _ _)
  have x0 : w1.cell? ⟨W.heap.size, 0, none⟩ = some (.int .i64 d.f0) := (blk_cell hx1 0).trans rfl
  have hlook := (HM.out.fr (F := fun _ => False) (Fr.of_below hb.out) (fun h => h)).look ek3 hw
  rw [es] at hlook
  have hX1 := Aside0.mk hx1
  clear hR1 hb1 hx hbx es hx1
  go_quiet (fail)
  clear hlook c1 x0
  go_upto_region 6 with (fail)
  have hb3 := Aside0.mk (pw_below_drewN hb.out nq)
  have hX3 := Aside0.mk (show (w1.drewN nq).heap[W.heap.size]? = _ from hX1.out)
  generalize w1.drewN nq = w3 at hb3 hX3 ⊢
  clear hb hX1
  have hR3 := Aside0.mk (blk_below HR.out hb3.out)
  have kp : Aside0 (∀ w', Below w3.heap.size w3 w' → w'.cell? ⟨R, j, none⟩ = some (.slice A L.length c) ∧ w'.cell? ⟨W.heap.size, 0, none⟩ = some (.int .i64 d.f0) ∧ w'.cell? ⟨W.heap.size, 1, none⟩ = some (.int .u64 d.f1)) := ⟨fun w' hb => by
    have g1 := blk_below hR3.out hb
    have g2 := blk_below hX3.out hb
    refine ⟨(blk_cell g1 j).trans ((rc_at _ _ _ hj).trans (by rw [E0.out])), (blk_cell g2 0).trans rfl, (blk_cell g2 1).trans rfl⟩⟩
  obtain ⟨kk, hkk⟩ : ∃ kk, bgo L d L.length 0 L.length = kk := ⟨_, rfl⟩
  have hkk := Aside0.mk hkk
  have hkl : kk ≤ L.length := by rw [← hkk.out]; exact bgo_le L d L.length 0 L.length (Nat.zero_le _)
  have hbD := Aside0.mk (below_drew1 (Below.refl w3.heap.size w3))
  have HC3 := Aside0.mk (Kd.C_below HC.out (below_step hb3.out hbD.out))
  go_region_held3 (fun w' => w'.cell? ⟨R, j, none⟩ = some (.slice A L.length c) ∧ w'.cell? ⟨W.heap.size, 0, none⟩ = some (.int .i64 d.f0) ∧ w'.cell? ⟨W.heap.size, 1, none⟩ = some (.int .u64 d.f1)) (first | exact kp.out _ hbD.out | exact kp.out _ (below_step hbD.out hb4)) ((go_at_call 58; have hT := bs_walk A c L d _ HC3.out (by omega); rw [hkk.out] at hT; refine hT.mono ?_; clear hT; rintro e w4 ⟨bb, rfl, hb4⟩))
  go_wp2
  have hb5 := Aside0.mk (below_step hbD.out hb4)
  clear hb4 hbD HC3
  have hX4 := Aside0.mk (blk_below hX3.out hb5.out)
  have hR4 := Aside0.mk (blk_below hR3.out hb5.out)
  have hbT := Aside0.mk (below_step hb3.out hb5.out)
  have hV4 := Aside0.mk (Kd.R_below HV.out hbT.out)
  clear hR3 hX3
  refine start_ (n := 16) (S := fun w' => w'.cell? ⟨R, j, none⟩ = some (.slice A L.length c) ∧ w'.cell? ⟨W.heap.size, 0, none⟩ = some (.int .i64 d.f0) ∧ w'.cell? ⟨W.heap.size, 1, none⟩ = some (.int .u64 d.f1)) (ds := [15]) #[false, false, false, false, false, false, false, false, false, false, false, false, false, false, false, false] (by kernel_rfl) rfl rfl (kp.out _ (below_drew1 hb5.out)) (fun hHeld => ?_)
  replace hb5 := Aside0.mk (below_drew1 hb5.out)
  replace hX4 := Aside0.mk (show w4.drew.heap[W.heap.size]? = _ from hX4.out)
  replace hR4 := Aside0.mk (show w4.drew.heap[R]? = _ from hR4.out)
  replace hbT := Aside0.mk (below_drew1 hbT.out)
  replace hV4 := Aside0.mk (Kd.R_drew hV4.out)
  generalize w4.drew = w5 at hHeld hb5 hX4 hR4 hbT hV4 ⊢
  clear kp
  have hbA := Aside0.mk (below_alloc (Below.refl w5.heap.size w5) (.cells #[.int .i64 d.f0, .int .u64 d.f1] 31))
  refine pure_ (i := 0) (N := some 37) (v := ?_) (a' := ?_) #[true, false, false, false, false, false, false, false, false, false, false, false, false, false, false, false] rfl rfl (by kernel_rfl) (fun _ _ _ h => h) (Or.inl ⟨by rfl, ?_⟩) ?_ ?_
  rotate_left
  · intro w'
    go_simp
    with_reducible rfl
  rotate_left
  · simp only [Act.put, List.setIfInBounds_toArray, List.set_cons_zero, List.set_cons_succ]
    rfl
  refine pure_ (i := 1) (N := some 38) (v := ?_) (a' := ?_) #[true, true, false, false, false, false, false, false, false, false, false, false, false, false, false, false] rfl rfl (by kernel_rfl) (fun _ _ _ h => h) (Or.inl ⟨by rfl, ?_⟩) ?_ ?_
  rotate_left
  · intro w'
    go_simp
    with_reducible rfl
  rotate_left
  · simp only [Act.put, List.setIfInBounds_toArray, List.set_cons_zero, List.set_cons_succ]
    rfl
  refine pure_ (i := 2) (N := some 39) (v := ?_) (a' := ?_) #[true, true, true, false, false, false, false, false, false, false, false, false, false, false, false, false] rfl rfl (by kernel_rfl) (fun _ _ _ h => h) (Or.inl ⟨by rfl, ?_⟩) ?_ ?_
  rotate_left
  · intro w'
    go_simp
    with_reducible rfl
  rotate_left
  · simp only [Act.put, List.setIfInBounds_toArray, List.set_cons_zero, List.set_cons_succ]
    rfl
  refine pure_ (i := 3) (N := some 40) (v := ?_) (a' := ?_) #[true, true, true, true, false, false, false, false, false, false, false, false, false, false, false, false] rfl rfl (by kernel_rfl) (fun _ _ _ h => h) (Or.inl ⟨by rfl, ?_⟩) ?_ ?_
  rotate_left
  · intro w'
    go_simp
    with_reducible rfl
  rotate_left
  · simp only [Act.put, List.setIfInBounds_toArray, List.set_cons_zero, List.set_cons_succ]
    rfl
  refine pure_ (i := 4) (N := some 41) (v := ?_) (a' := ?_) #[true, true, true, true, true, false, false, false, false, false, false, false, false, false, false, false] rfl rfl (by kernel_rfl) (fun _ _ _ h => h) (Or.inl ⟨by rfl, ?_⟩) ?_ ?_
  rotate_left
  · intro w'
    go_simp
    with_reducible rfl
  rotate_left
  · simp only [Act.put, List.setIfInBounds_toArray, List.set_cons_zero, List.set_cons_succ]
    rfl
  refine pure_ (i := 5) (N := some 42) (v := ?_) (a' := ?_) #[true, true, true, true, true, true, false, false, false, false, false, false, false, false, false, false] rfl rfl (by kernel_rfl) (fun _ _ _ h => h) (Or.inl ⟨by rfl, ?_⟩) ?_ ?_
  rotate_left
  · intro w'
    go_simp
    with_reducible rfl
  rotate_left
  · simp only [Act.put, List.setIfInBounds_toArray, List.set_cons_zero, List.set_cons_succ]
    rfl
  refine pure_ (i := 6) (N := some 43) (v := ?_) (a' := ?_) #[true, true, true, true, true, true, true, false, false, false, false, false, false, false, false, false] rfl rfl (by kernel_rfl) (fun _ _ _ h => h) (Or.inl ⟨by rfl, ?_⟩) ?_ ?_
  rotate_left
  · intro w'
    go_simp
    with_reducible rfl
  rotate_left
  · simp only [Act.put, List.setIfInBounds_toArray, List.set_cons_zero, List.set_cons_succ]
    rfl
  refine take_ (i := 7) (N := some 44) (v := ?_) (a' := ?_) #[true, true, true, true, true, true, true, true, false, false, false, false, false, false, false, false] rfl rfl (by kernel_rfl) (fun _ _ _ h => h) (Or.inl ⟨by rfl, ?_⟩) hHeld ?_ ?_
  rotate_left
  · rintro w' ⟨s0, s1, s2⟩
    go_simp
    with_reducible rfl
  rotate_left
  · simp only [Act.put, List.setIfInBounds_toArray, List.set_cons_zero, List.set_cons_succ]
    rfl
  refine pure_ (i := 8) (N := some 45) (v := ?_) (a' := ?_) #[true, true, true, true, true, true, true, true, true, false, false, false, false, false, false, false] rfl rfl (by kernel_rfl) (fun _ _ _ h => h) (Or.inl ⟨by rfl, ?_⟩) ?_ ?_
  rotate_left
  · intro w'
    go_simp
    with_reducible rfl
  rotate_left
  · simp only [Act.put, List.setIfInBounds_toArray, List.set_cons_zero, List.set_cons_succ]
    rfl
  refine take_ (i := 9) (N := some 46) (v := ?_) (a' := ?_) #[true, true, true, true, true, true, true, true, true, true, false, false, false, false, false, false] rfl rfl (by kernel_rfl) (fun _ _ _ h => h) (Or.inl ⟨by rfl, ?_⟩) hHeld ?_ ?_
  rotate_left
  · rintro w' ⟨s0, s1, s2⟩
    go_simp
    with_reducible rfl
  rotate_left
  · simp only [Act.put, List.setIfInBounds_toArray, List.set_cons_zero, List.set_cons_succ]
    rfl
  refine pure_ (i := 12) (N := some 49) (v := ?_) (a' := ?_) #[true, true, true, true, true, true, true, true, true, true, false, false, true, false, false, false] rfl rfl (by kernel_rfl) (fun _ _ _ h => h) (Or.inl ⟨by rfl, ?_⟩) ?_ ?_
  rotate_left
  · intro w'
    go_simp
    with_reducible rfl
  rotate_left
  · simp only [Act.put, List.setIfInBounds_toArray, List.set_cons_zero, List.set_cons_succ]
    rfl
  refine pure_ (i := 13) (N := some 50) (v := ?_) (a' := ?_) #[true, true, true, true, true, true, true, true, true, true, false, false, true, true, false, false] rfl rfl (by kernel_rfl) (fun _ _ _ h => h) (Or.inl ⟨by rfl, ?_⟩) ?_ ?_
  rotate_left
  · intro w'
    go_simp
    with_reducible rfl
  rotate_left
  · simp only [Act.put, List.setIfInBounds_toArray, List.set_cons_zero, List.set_cons_succ]
    rfl
  refine one_ (i := 10) (N := some 47) #[true, true, true, true, true, true, true, true, true, true, true, false, true, true, false, false] rfl rfl (by kernel_rfl) (by decide) (fun K hK => ?_)
  refine event_step (v := .slice (some ⟨w5.heap.size, 0, none⟩) 1 1) (w1 := w5.alloc (.cells #[.int .i64 d.f0, .int .u64 d.f1] 31)) (by rfl) (by go_simp) ?_
  refine hK.out _ _ ⟨(hbA.out.cell (World.block_lt_of_cell? _ _ hHeld.1)).trans hHeld.1, (hbA.out.cell (World.block_lt_of_cell? _ _ hHeld.2.1)).trans hHeld.2.1, (hbA.out.cell (World.block_lt_of_cell? _ _ hHeld.2.2)).trans hHeld.2.2⟩ (fun hHeld => ?_)
  clear hK K
  refine norm_ (a' := ?_) ?_ ?_
  rotate_left
  · show Act.put _ (some 47) _ = _
    simp only [Act.put, List.setIfInBounds_toArray, List.set_cons_zero, List.set_cons_succ]
    rfl
  refine one_ (i := 11) (N := some 48) #[true, true, true, true, true, true, true, true, true, true, true, true, true, true, false, false] rfl rfl (by kernel_rfl) (by decide) (fun K hK => ?_)
  refine goes_ Tryd.func60 (by kernel_rfl) rfl #[.slice A L.length c, .int .i64 kk, .slice (some ⟨w5.heap.size, 0, none⟩) 1 1] (by rfl) rfl rfl (by simp only [List.map_toArray, List.map_cons, List.map_nil]; rfl) ?_
  have hT := insert_calls (Kd.R_below hV4.out hbA.out) d kk hkl (by omega) w5.heap.size (blk_new w5 _) (fun e => by have := (hvb.out _ e).1; have := hbT.out.size; omega) (Nat.le_trans (Nat.le_trans (HA.out.1 R h3).1 (Nat.le_of_lt (HA.out.1 R h3).2)) (Nat.le_trans hbT.out.size hbA.out.size))
  refine hT.mono ?_
  clear hT
  rintro e w7 ⟨v1, rfl, hR7, hF7, hA7⟩
  refine ⟨_, rfl, ?_⟩
  refine hK.out _ _ ⟨hF7.cell hHeld.1 (fun e => (hvb.out R e).2.1 rfl), hF7.cell hHeld.2.1 (fun e => Nat.lt_irrefl _ (hvb.out _ e).1), hF7.cell hHeld.2.2 (fun e => Nat.lt_irrefl _ (hvb.out _ e).1)⟩ (fun hHeld => ?_)
  clear hK K
  refine norm_ (a' := ?_) ?_ ?_
  rotate_left
  · show Act.put _ (some 48) _ = _
    simp only [Act.put, List.setIfInBounds_toArray, List.set_cons_zero, List.set_cons_succ]
    rfl
  refine pure_ (i := 14) (N := some 51) (v := ?_) (a' := ?_) #[true, true, true, true, true, true, true, true, true, true, true, true, true, true, true, false] rfl rfl (by kernel_rfl) (fun _ _ _ h => h) (Or.inl ⟨by rfl, ?_⟩) ?_ ?_
  rotate_left
  · intro w'
    go_simp
    with_reducible rfl
  rotate_left
  · simp only [Act.put, List.setIfInBounds_toArray, List.set_cons_zero, List.set_cons_succ]
    rfl
  refine last_ (i := 15) (N := none) #[true, true, true, true, true, true, true, true, true, true, true, true, true, true, true, true] rfl rfl (by kernel_rfl) (by decide) (fun K hK => ?_)
  obtain ⟨A5, c5, rfl⟩ := Kd.R_slice hR7
  obtain ⟨n5, hn5⟩ : ∃ n, (L.take kk ++ d :: L.drop kk).length = n := ⟨_, rfl⟩
  rw [hn5] at hR7 hA7 ⊢
  clear hn5
  have hR7b := Aside0.mk ((hF7.blk R (Nat.lt_of_lt_of_le (blk_lt hR4.out) hbA.out.size) (fun e => (hvb.out R e).2.1 rfl)).trans (blk_below hR4.out hbA.out))
  have hX7 := Aside0.mk ((hF7.blk W.heap.size (Nat.lt_of_lt_of_le (blk_lt hX4.out) hbA.out.size) (fun e => Nat.lt_irrefl _ (hvb.out _ e).1)).trans (blk_below hX4.out hbA.out))
  have hs := hHeld.1
  have hfs := blk_frozen hR7b.out j
  refine skip_ (w1 := ?_) (by rfl) rfl ?_ ?_
  rotate_left
  · go_simp
    rfl
  refine hK.out _ _ ?_
  clear hK K
  refine done_ (by kernel_rfl) ?_
  go_wp2
  obtain ⟨v1, hv1⟩ : ∃ v, Value.slice A5 n5 c5 = v := ⟨_, rfl⟩
  rw [hv1] at hR7 hA7 ⊢
  clear hv1
  have hXR : W.heap.size ≠ R := fun e => by have := hRl.out; omega
  have hR8 := Aside0.mk (blk_set hR7b.out j v1)
  rw [rc_set vs m fu hj v1] at hR8
  have hX8 := Aside0.mk (((Fr.set w7 R j v1).blk W.heap.size (blk_lt hX7.out) hXR).trans hX7.out)
  have hV8 := Aside0.mk (Kd.R_set hR7 hR7b.out (by decide) j v1)
  have hF8 : Aside0 (Fr (fun k => k = R ∨ k = m ∨ (vs j).ownBlock = some k) W (w7.setCell ⟨R, j, none⟩ v1)) := ⟨(Fr.of_below (below_step hbT.out hbA.out)).trans ((hF7.weak (fun k hk => .inr (.inr (by rw [E0.out]; exact hk)))).trans ((Fr.set w7 R j v1).weak (fun k hk => .inl hk)))⟩
  have hM8 : Aside0 (MI .i64 3 (w7.setCell ⟨R, j, none⟩ v1) m (slotOf T) T.length) := ⟨HM.out.fr (F := fun k => k = R ∨ (Value.slice A L.length c).ownBlock = some k) ((Fr.of_below (below_step hbT.out hbA.out)).trans ((hF7.weak (fun k hk => .inr hk)).trans ((Fr.set w7 R j v1).weak (fun k hk => .inl hk)))) (fun hk => by
    rcases hk with hk | hk
    · exact hmR.out.2 hk
    · exact (hvb.out m hk).2.2 rfl)⟩
  have hA8 : Aside0 (v1.ownBlock = (vs j).ownBlock ∨ ∃ b, v1.ownBlock = some b ∧ W.heap.size ≤ b) := ⟨by
    rcases hA7 with e | ⟨b, e, hb⟩
    · exact .inl (by rw [e, E0.out])
    · exact .inr ⟨b, e, Nat.le_trans (Nat.le_trans hbT.out.size hbA.out.size) hb⟩⟩
  generalize w7.setCell ⟨R, j, none⟩ v1 = w8 at hR8 hX8 hV8 hF8 hM8 ⊢
  clear hR7 hA7 hR7b hX7 hs hfs hHeld hF7 hbA hV4 hX4 hR4
  obtain ⟨w9, hrun9, hM9, ht9⟩ := (hM8.out.fr (F := fun _ => False) (Fr.drew w8) (fun h => h)).store ek3 (by unfold maxLen; omega) hw (wf_slot hj)
  rw [show slotOf T d.f0 = none from es2.out] at hM9
  have hM9 := Aside0.mk hM9
  have ht9 := Aside0.mk ht9
  have kp8 : Aside0 (∀ w', Fr (fun k => k = m) w8 w' → w'.cell? ⟨R, 64, none⟩ = some (.map (some m)) ∧ w'.cell? ⟨W.heap.size, 0, none⟩ = some (.int .i64 d.f0)) := ⟨fun w' hf =>
    ⟨hf.cell ((blk_cell hR8.out 64).trans (rc_map _ _ _)) (fun e => hmR.out.2 e.symm), hf.cell ((blk_cell hX8.out 0).trans rfl) (fun e => by have := hmR.out.1; have e2 : W.heap.size = m := e; omega)⟩⟩
  go_region_held3 (fun w' => w'.cell? ⟨R, 64, none⟩ = some (.map (some m)) ∧ w'.cell? ⟨W.heap.size, 0, none⟩ = some (.int .i64 d.f0)) (first | exact kp8.out _ (Fr.drew _) | exact kp8.out _ ((Fr.drew _).trans (Fr.of_turned ht9.out))) (fail)
  have hR9 := Aside0.mk (((Fr.of_turned ht9.out).blk R (blk_lt (show w8.drew.heap[R]? = _ from hR8.out)) (fun e => hmR.out.2 e.symm)).trans (show w8.drew.heap[R]? = _ from hR8.out))
  have hF9 := Aside0.mk (hF8.out.trans (((Fr.drew w8).trans (Fr.of_turned ht9.out)).weak (fun k hk => .inr (.inl hk))))
  have hV9 := Aside0.mk (Kd.R_kept (Kd.R_tight2 rfl hV8.out) (S := fun k => k = m) ⟨((Fr.drew w8).trans (Fr.of_turned ht9.out)).size, fun i hi hn => ((Fr.drew w8).trans (Fr.of_turned ht9.out)).blk i hi hn⟩ (fun k hk e => (own_apart hR8.out hM8.out hV8.out k hk.1.symm).2.2 e))
  clear kp8 hrun9 ht9
  have c65 : w9.cell? ⟨R, 65, none⟩ = some (.int .u64 fu) := (blk_cell hR9.out 65).trans (rc_full _ _ _)
  have hwi := Mk.with_ HU.out.1 (j : Int)
  go_wp2_with (go_at_call 61; refine (mask_With.calls fu (j : Int) _ _ hwi).mono ?_; rintro e w10 ⟨rfl, hd10⟩; have hb10 := hd10.below; have hR10 := Aside0.mk (blk_below hR9.out (W10 hb10)); have z1 : w10.cell? ⟨R, 65, none⟩ = some (.int .u64 fu) := (blk_cell hR10.out 65).trans (rc_full _ _ _); have z2 := blk_frozen hR10.out 65)
  go_ret
  have hset := blk_set hR10.out 65 (.int .u64 (Mk.wi fu (j : Int)))
  rw [rc_setFull] at hset
  have hFe := (Fr.of_below (F := fun k => k = R) (W10 hb10)).trans (Fr.set w10 R 65 (.int .u64 (Mk.wi fu (j : Int))))
  obtain ⟨g1, g2, g3, g4, g5⟩ := HA.out
  refine ⟨rfl, ⟨RI.rebuild (fu' := Mk.wi fu (j : Int)) (j := j) (v1 := v1) h3 g1 HR.out HM.out g2 g3 g4 g5 hj (hF9.out.trans (hFe.weak (fun k hk => .inl hk))) hset ?_ (Mk.U_with HU.out.1 _) (hs_put j hj d HU.out.2) ?_ hA8.out (HP.out.put ⟨by omega, by omega⟩ hd2.out hw) (fun i hi hij => ?_)⟩⟩
  · have h1 := hM9.out.fr hFe hmR.out.2
    rw [if_neg (by simp)] at h1
    exact h1.congr (fun x => (slotOf_put x).symm)
  · have h1 := Kd.R_set (Kd.R_below hV9.out (W10 hb10)) hR10.out (by decide) 65 (.int .u64 (Mk.wi fu (j : Int)))
    have e1 : psort (atS (⟨(j : Int), d⟩ :: T) j) = L.take kk ++ d :: L.drop kk := by
      rw [atS_cons, if_pos rfl]
      have h2 := insf_eq (l := L) (by rw [← HL.out]; exact psort_so _) d
      unfold insf bsp at h2
      rw [hkk.out] at h2
      rw [h2]
      exact psort_congr ((HL.out ▸ psort_perm (atS T j)).symm.cons d)
    rw [e1]
    exact Kd.R_mono h1 (fun _ _ => trivial)
  · rw [atS_cons, if_neg (by simp; omega)]
end
end Go.Proofs.YtedolmjealgeoaaDoor.Rg

set_option linter.unusedVariables false
namespace Go.Proofs.YtedolmjealgeoaaDoor.Rg
open Go.RowKit Go.Maps Go.Proofs.YtedolmjealgeoaaDoor.PBase Go.Proofs.YtedolmjealgeoaaDoor.Cat Go.Proofs.YtedolmjealgeoaaDoorW.PrintWords Go.Proofs.YtedolmjealgeoaaDoorW.PrintLast Go.Proofs.YtedolmjealgeoaaDoorW.PrintMore
section
variable {N : Nat} {F : Nat → Prop} {W : World} {R : Nat} {T : List S114}
theorem drop_nil (W : World) (id : Int) : Calls Tryd.prog 17 #[.pointer none, .int .i64 id] W fun e w' => e = .returned (.tuple #[.int .i64 0, .bool false]) ∧ Below W.heap.size W w' := by
  have hbx : Below W.heap.size W (W.alloc (.cells #[.int .i64 id] 3)) := below_alloc (Below.refl _ _) _
  go_enter Tryd.func17, Tryd.ntmps17
  go_wp2
  go_ret2
  exact ⟨rfl, hbx⟩
set_option maxHeartbeats 4000000 in
set_option maxRecDepth 100000 in
theorem drop_no (h : RI N F W R T) (id : Int) (hd : id ∉ tid T) (hw : (Lit.int .i64 id).wf = true) : Calls Tryd.prog 17 #[.pointer (some ⟨R, 0, none⟩), .int .i64 id] W fun e w' => e = .returned (.tuple #[.int .i64 0, .bool false]) ∧ Below W.heap.size W w' := by
  obtain ⟨h1, ⟨m, fu, vs, a1, a2, a3, a4, a5, a6, a7, a8⟩, h3, h4⟩ := h
  have es : slotOf T id = none := slotOf_none.2 hd
  have hb : Below W.heap.size W (W.alloc (.cells #[.int .i64 id] 3)) := below_alloc (Below.refl _ _) _
  have hx := blk_new W (.cells #[.int .i64 id] 3)
  have hR1 := blk_below a1 hb
  have c1 : (W.alloc (.cells #[.int .i64 id] 3)).cell? ⟨R, 64, none⟩ = some (.map (some m)) := (blk_cell hR1 64).trans (rc_map _ _ _)
  have x0 : (W.alloc (.cells #[.int .i64 id] 3)).cell? ⟨W.heap.size, 0, none⟩ = some (.int .i64 id) := (blk_cell hx 0).trans rfl
  have hlook := (a2.fr (F := fun _ => False) (Fr.of_below hb) (fun h => h)).look ek3 hw
  rw [es] at hlook
  have HB := Aside0.mk hb
  clear a1 a2 a3 a4 a5 a6 a7 a8 h1 h4 hd hR1 hx es hb
  go_enter Tryd.func17, Tryd.ntmps17
  go_upto_region 3 with (fail)
  generalize W.alloc (.cells #[.int .i64 id] 3) = w1 at HB c1 x0 hlook ⊢
  go_quiet (fail)
  go_wp2
  go_ret2
  exact ⟨rfl, by repeat (first | exact HB.out | apply pw_below_drewN | apply below_drew1)⟩
set_option maxHeartbeats 4000000 in
set_option maxRecDepth 100000 in
theorem drop_yes (h : RI N F W R T) (l : S114) (hl : l ∈ T) (j : Nat) (hlj : l.f0 = (j : Int)) (id : Int) (hid : l.f1.f0 = id) (hlen : T.length ≤ 100000) : Calls Tryd.prog 17 #[.pointer (some ⟨R, 0, none⟩), .int .i64 id] W fun e w' => e = .returned (.tuple #[.int .i64 j, .bool true]) ∧ Aside0 (RGo N F W w' R (dropT T id)) := by
  have hle := h.len_le (j : Int)
  have hj : j < 64 := by have := h.pt.sl l hl; omega
  have hw : (Lit.int .i64 id).wf = true := by rw [← hid]; exact h.pt.wf l hl
  have es : slotOf T id = some (j : Int) := by rw [← hid, ← hlj]; exact slotOf_mem h.pt.nd hl
  obtain ⟨h1, ⟨m, fu, vs, a1, a2, a3, a4, a5, a6, a7, a8⟩, h3, h4⟩ := h
  have es2 := Aside0.mk es
  have hl2 := Aside0.mk (And.intro hl (And.intro hlj hid))
  obtain ⟨A, c, e0, hc, hC⟩ := Kd.R_reads (a5 j hj)
  have hb : Below W.heap.size W (W.alloc (.cells #[.int .i64 id] 3)) := below_alloc (Below.refl _ _) _
  have hx := blk_new W (.cells #[.int .i64 id] 3)
  have HM := Aside0.mk a2
  have HR := Aside0.mk a1
  have HU := Aside0.mk (And.intro a3 a4)
  have HA := Aside0.mk (And.intro h4 (And.intro a5 (And.intro a6 (And.intro a7 a8))))
  have HP := Aside0.mk h1
  have HV := Aside0.mk (a5 j hj)
  rw [e0] at HV
  have hRl : Aside0 (R < W.heap.size) := ⟨(h4 R h3).2⟩
  have hmR : Aside0 (m < W.heap.size ∧ m ≠ R) := ⟨a2.lt, fun e => by obtain ⟨es, ck, hb⟩ := a2.blk; rw [e, a1] at hb; cases hb⟩
  have hvb : Aside0 (∀ b, (vs j).ownBlock = some b → b < W.heap.size ∧ b ≠ R ∧ b ≠ m) := ⟨fun b hb => own_apart a1 a2 (a5 j hj) b hb⟩
  rw [e0] at hvb
  have E0 := Aside0.mk e0
  have hj2 : (j : Int) < 64 := by omega
  have hR1 := blk_below a1 hb
  have c1 : (W.alloc (.cells #[.int .i64 id] 3)).cell? ⟨R, 64, none⟩ = some (.map (some m)) := (blk_cell hR1 64).trans (rc_map _ _ _)
  have x0 : (W.alloc (.cells #[.int .i64 id] 3)).cell? ⟨W.heap.size, 0, none⟩ = some (.int .i64 id) := (blk_cell hx 0).trans rfl
  have hlook := (a2.fr (F := fun _ => False) (Fr.of_below hb) (fun h => h)).look ek3 hw
  rw [es] at hlook
  replace hb := Aside0.mk hb
  replace hx := Aside0.mk hx
  replace hR1 := Aside0.mk hR1
  clear a1 a2 a3 a4 a5 a6 a7 a8 h1 h4 e0 hC hl hlj hid es
  obtain ⟨L, hL⟩ : ∃ L, psort (atS T j) = L := ⟨_, rfl⟩
  rw [hL] at HV hvb E0 hle hc
  have HL := Aside0.mk hL
  clear hL
  go_enter Tryd.func17, Tryd.ntmps17
  go_upto_region 3 with (fail)
  generalize W.alloc (.cells #[.int .i64 id] 3) = w1 at hb hx hR1 c1 x0 hlook ⊢
  go_quiet (fail)
  clear hlook c1 x0
  go_upto_region 6 with (fail)
  have hb3 := Aside0.mk (pw_below_drewN hb.out nq)
  have hX3 := Aside0.mk (show (w1.drewN nq).heap[W.heap.size]? = _ from hx.out)
  have hR3 := Aside0.mk (show (w1.drewN nq).heap[R]? = _ from hR1.out)
  generalize w1.drewN nq = w3 at hb3 hX3 hR3 ⊢
  clear hb hx hR1
  refine start_ (n := 14) (S := fun w' => w'.cell? ⟨R, j, none⟩ = some (.slice A L.length c)) (ds := [13]) #[false, false, false, false, false, false, false, false, false, false, false, false, false, false] (by kernel_rfl) rfl rfl ((blk_cell (show w3.drew.heap[R]? = _ from hR3.out) j).trans ((rc_at _ _ _ hj).trans (by rw [E0.out]))) (fun hHeld => ?_)
  have hbT := Aside0.mk (below_drew1 hb3.out)
  have hX4 := Aside0.mk (show w3.drew.heap[W.heap.size]? = _ from hX3.out)
  have hR4 := Aside0.mk (show w3.drew.heap[R]? = _ from hR3.out)
  have hV4 := Aside0.mk (Kd.R_below HV.out hbT.out)
  generalize w3.drew = w5 at hHeld hX4 hR4 hbT hV4 ⊢
  clear hb3 hX3 hR3
  refine pure_ (i := 0) (N := some 21) (v := ?_) (a' := ?_) #[true, false, false, false, false, false, false, false, false, false, false, false, false, false] rfl rfl (by kernel_rfl) (fun _ _ _ h => h) (Or.inl ⟨by rfl, ?_⟩) ?_ ?_
  rotate_left
  · intro w'
    go_simp
    with_reducible rfl
  rotate_left
  · simp only [Act.put, List.setIfInBounds_toArray, List.set_cons_zero, List.set_cons_succ]
    rfl
  refine pure_ (i := 1) (N := some 22) (v := ?_) (a' := ?_) #[true, true, false, false, false, false, false, false, false, false, false, false, false, false] rfl rfl (by kernel_rfl) (fun _ _ _ h => h) (Or.inl ⟨by rfl, ?_⟩) ?_ ?_
  rotate_left
  · intro w'
    go_simp
    with_reducible rfl
  rotate_left
  · simp only [Act.put, List.setIfInBounds_toArray, List.set_cons_zero, List.set_cons_succ]
    rfl
  refine pure_ (i := 2) (N := some 23) (v := ?_) (a' := ?_) #[true, true, true, false, false, false, false, false, false, false, false, false, false, false] rfl rfl (by kernel_rfl) (fun _ _ _ h => h) (Or.inl ⟨by rfl, ?_⟩) ?_ ?_
  rotate_left
  · intro w'
    go_simp
    with_reducible rfl
  rotate_left
  · simp only [Act.put, List.setIfInBounds_toArray, List.set_cons_zero, List.set_cons_succ]
    rfl
  refine pure_ (i := 3) (N := some 24) (v := ?_) (a' := ?_) #[true, true, true, true, false, false, false, false, false, false, false, false, false, false] rfl rfl (by kernel_rfl) (fun _ _ _ h => h) (Or.inl ⟨by rfl, ?_⟩) ?_ ?_
  rotate_left
  · intro w'
    go_simp
    with_reducible rfl
  rotate_left
  · simp only [Act.put, List.setIfInBounds_toArray, List.set_cons_zero, List.set_cons_succ]
    rfl
  refine pure_ (i := 4) (N := some 25) (v := ?_) (a' := ?_) #[true, true, true, true, true, false, false, false, false, false, false, false, false, false] rfl rfl (by kernel_rfl) (fun _ _ _ h => h) (Or.inl ⟨by rfl, ?_⟩) ?_ ?_
  rotate_left
  · intro w'
    go_simp
    with_reducible rfl
  rotate_left
  · simp only [Act.put, List.setIfInBounds_toArray, List.set_cons_zero, List.set_cons_succ]
    rfl
  refine pure_ (i := 5) (N := some 26) (v := ?_) (a' := ?_) #[true, true, true, true, true, true, false, false, false, false, false, false, false, false] rfl rfl (by kernel_rfl) (fun _ _ _ h => h) (Or.inl ⟨by rfl, ?_⟩) ?_ ?_
  rotate_left
  · intro w'
    go_simp
    with_reducible rfl
  rotate_left
  · simp only [Act.put, List.setIfInBounds_toArray, List.set_cons_zero, List.set_cons_succ]
    rfl
  refine pure_ (i := 6) (N := some 27) (v := ?_) (a' := ?_) #[true, true, true, true, true, true, true, false, false, false, false, false, false, false] rfl rfl (by kernel_rfl) (fun _ _ _ h => h) (Or.inl ⟨by rfl, ?_⟩) ?_ ?_
  rotate_left
  · intro w'
    go_simp
    with_reducible rfl
  rotate_left
  · simp only [Act.put, List.setIfInBounds_toArray, List.set_cons_zero, List.set_cons_succ]
    rfl
  refine take_ (i := 7) (N := some 28) (v := ?_) (a' := ?_) #[true, true, true, true, true, true, true, true, false, false, false, false, false, false] rfl rfl (by kernel_rfl) (fun _ _ _ h => h) (Or.inl ⟨by rfl, ?_⟩) hHeld ?_ ?_
  rotate_left
  · intro w' s0
    go_simp
    with_reducible rfl
  rotate_left
  · simp only [Act.put, List.setIfInBounds_toArray, List.set_cons_zero, List.set_cons_succ]
    rfl
  refine pure_ (i := 8) (N := some 29) (v := ?_) (a' := ?_) #[true, true, true, true, true, true, true, true, true, false, false, false, false, false] rfl rfl (by kernel_rfl) (fun _ _ _ h => h) (Or.inl ⟨by rfl, ?_⟩) ?_ ?_
  rotate_left
  · intro w'
    go_simp
    with_reducible rfl
  rotate_left
  · simp only [Act.put, List.setIfInBounds_toArray, List.set_cons_zero, List.set_cons_succ]
    rfl
  refine pure_ (i := 10) (N := some 31) (v := ?_) (a' := ?_) #[true, true, true, true, true, true, true, true, true, false, true, false, false, false] rfl rfl (by kernel_rfl) (fun _ _ _ h => h) (Or.inl ⟨by rfl, ?_⟩) ?_ ?_
  rotate_left
  · intro w'
    go_simp
    with_reducible rfl
  rotate_left
  · simp only [Act.put, List.setIfInBounds_toArray, List.set_cons_zero, List.set_cons_succ]
    rfl
  refine pure_ (i := 11) (N := some 32) (v := ?_) (a' := ?_) #[true, true, true, true, true, true, true, true, true, false, true, true, false, false] rfl rfl (by kernel_rfl) (fun _ _ _ h => h) (Or.inl ⟨by rfl, ?_⟩) ?_ ?_
  rotate_left
  · intro w'
    go_simp
    with_reducible rfl
  rotate_left
  · simp only [Act.put, List.setIfInBounds_toArray, List.set_cons_zero, List.set_cons_succ]
    rfl
  refine one_ (i := 9) (N := some 30) #[true, true, true, true, true, true, true, true, true, true, true, true, false, false] rfl rfl (by kernel_rfl) (by decide) (fun K hK => ?_)
  refine goes_ Tryd.func63 (by kernel_rfl) rfl #[.slice A L.length c, .func (.func 64) #[] #[.pointer (some ⟨W.heap.size, 0, none⟩)]] (by rfl) rfl rfl (by simp only [List.map_toArray, List.map_cons, List.map_nil]; rfl) ?_
  have hT := delete_calls hV4.out id W.heap.size hX4.out (by omega)
  refine hT.mono ?_
  clear hT
  rintro e w7 ⟨v1, rfl, hR7, hF7, hA7⟩
  refine ⟨_, rfl, ?_⟩
  refine hK.out _ _ (hF7.cell hHeld (fun e => (hvb.out R e).2.1 rfl)) (fun hHeld => ?_)
  clear hK K
  refine norm_ (a' := ?_) ?_ ?_
  rotate_left
  · show Act.put _ (some 30) _ = _
    simp only [Act.put, List.setIfInBounds_toArray, List.set_cons_zero, List.set_cons_succ]
    rfl
  refine pure_ (i := 12) (N := some 33) (v := ?_) (a' := ?_) #[true, true, true, true, true, true, true, true, true, true, true, true, true, false] rfl rfl (by kernel_rfl) (fun _ _ _ h => h) (Or.inl ⟨by rfl, ?_⟩) ?_ ?_
  rotate_left
  · intro w'
    go_simp
    with_reducible rfl
  rotate_left
  · simp only [Act.put, List.setIfInBounds_toArray, List.set_cons_zero, List.set_cons_succ]
    rfl
  refine last_ (i := 13) (N := none) #[true, true, true, true, true, true, true, true, true, true, true, true, true, true] rfl rfl (by kernel_rfl) (by decide) (fun K hK => ?_)
  obtain ⟨A5, c5, rfl⟩ := Kd.R_slice hR7
  obtain ⟨n5, hn5⟩ : ∃ n, (L.filter (fun y => !(y.f0 == id))).length = n := ⟨_, rfl⟩
  rw [hn5] at hR7 hA7 ⊢
  have hn5 := Aside0.mk hn5
  have hR7b := Aside0.mk ((hF7.blk R (blk_lt hR4.out) (fun e => (hvb.out R e).2.1 rfl)).trans hR4.out)
  have hX7 := Aside0.mk ((hF7.blk W.heap.size (blk_lt hX4.out) (fun e => Nat.lt_irrefl _ (hvb.out _ e).1)).trans hX4.out)
  have hs := hHeld
  have hfs := blk_frozen hR7b.out j
  refine skip_ (w1 := ?_) (by rfl) rfl ?_ ?_
  rotate_left
  · go_simp
    rfl
  refine hK.out _ _ ?_
  clear hK K
  refine done_ (by kernel_rfl) ?_
  go_wp2
  have hXR : W.heap.size ≠ R := fun e => by have := hRl.out; omega
  have hR8 := Aside0.mk (blk_set hR7b.out j (.slice A5 n5 c5))
  rw [rc_set vs m fu hj (.slice A5 n5 c5)] at hR8
  have hX8 := Aside0.mk (((Fr.set w7 R j (.slice A5 n5 c5)).blk W.heap.size (blk_lt hX7.out) hXR).trans hX7.out)
  have hV8 := Aside0.mk (Kd.R_set hR7 hR7b.out (by decide) j (.slice A5 n5 c5))
  have hF8 : Aside0 (Fr (fun k => k = R ∨ k = m ∨ (vs j).ownBlock = some k) W (w7.setCell ⟨R, j, none⟩ (.slice A5 n5 c5))) := ⟨(Fr.of_below hbT.out).trans ((hF7.weak (fun k hk => .inr (.inr (by rw [E0.out]; exact hk)))).trans ((Fr.set w7 R j (.slice A5 n5 c5)).weak (fun k hk => .inl hk)))⟩
  have hM8 : Aside0 (MI .i64 3 (w7.setCell ⟨R, j, none⟩ (.slice A5 n5 c5)) m (slotOf T) T.length) := ⟨HM.out.fr (F := fun k => k = R ∨ (Value.slice A L.length c).ownBlock = some k) ((Fr.of_below hbT.out).trans ((hF7.weak (fun k hk => .inr hk)).trans ((Fr.set w7 R j (.slice A5 n5 c5)).weak (fun k hk => .inl hk)))) (fun hk => by
    rcases hk with hk | hk
    · exact hmR.out.2 hk
    · exact (hvb.out m hk).2.2 rfl)⟩
  have hA8 : Aside0 ((Value.slice A5 n5 c5).ownBlock = (vs j).ownBlock ∨ ∃ b, (Value.slice A5 n5 c5).ownBlock = some b ∧ W.heap.size ≤ b) := ⟨.inl (by rw [hA7, E0.out])⟩
  generalize w7.setCell ⟨R, j, none⟩ (.slice A5 n5 c5) = w8 at hR8 hX8 hV8 hF8 hM8 ⊢
  clear hR7 hA7 hR7b hX7 hs hfs hHeld hF7 hV4 hX4 hR4
  obtain ⟨w9, hrun9, hM9, ht9⟩ := (hM8.out.fr (F := fun _ => False) (Fr.drew w8) (fun h => h)).drop ek3 hw 0
  rw [es2.out, if_pos (show (some (j : Int)).isSome = true from rfl)] at hM9
  have hM9 := Aside0.mk hM9
  have ht9 := Aside0.mk ht9
  have kp8 : Aside0 (∀ w', Fr (fun k => k = m) w8 w' → w'.cell? ⟨R, 64, none⟩ = some (.map (some m)) ∧ w'.cell? ⟨W.heap.size, 0, none⟩ = some (.int .i64 id)) := ⟨fun w' hf =>
    ⟨hf.cell ((blk_cell hR8.out 64).trans (rc_map _ _ _)) (fun e => hmR.out.2 e.symm), hf.cell ((blk_cell hX8.out 0).trans rfl) (fun e => by have := hmR.out.1; have e2 : W.heap.size = m := e; omega)⟩⟩
  go_region_held3 (fun w' => w'.cell? ⟨R, 64, none⟩ = some (.map (some m)) ∧ w'.cell? ⟨W.heap.size, 0, none⟩ = some (.int .i64 id)) (first | exact kp8.out _ (Fr.drew _) | exact kp8.out _ ((Fr.drew _).trans (Fr.of_turned ht9.out))) (fail)
  have hR9 := Aside0.mk (((Fr.of_turned ht9.out).blk R (blk_lt (show w8.drew.heap[R]? = _ from hR8.out)) (fun e => hmR.out.2 e.symm)).trans (show w8.drew.heap[R]? = _ from hR8.out))
  have hF9 := Aside0.mk (hF8.out.trans (((Fr.drew w8).trans (Fr.of_turned ht9.out)).weak (fun k hk => .inr (.inl hk))))
  have hV9 := Aside0.mk (Kd.R_kept (Kd.R_tight2 rfl hV8.out) (S := fun k => k = m) ⟨((Fr.drew w8).trans (Fr.of_turned ht9.out)).size, fun i hi hn => ((Fr.drew w8).trans (Fr.of_turned ht9.out)).blk i hi hn⟩ (fun k hk e => (own_apart hR8.out hM8.out hV8.out k hk.1.symm).2.2 e))
  clear kp8 hrun9 ht9 hV8 hF8 hM8 hR8 hX8
  have cj : w9.cell? ⟨R, j, none⟩ = some (.slice A5 n5 c5) := (blk_cell hR9.out j).trans ((rc_at _ _ _ hj).trans (by rw [vput_same]))
  have hsame : Aside0 (psort (atS (dropT T id) j) = L.filter (fun y => !(y.f0 == id))) := ⟨by rw [atS_drop, ← rm_psort, HL.out]; rfl⟩
  have hn5b : Aside0 (decide (atS (dropT T id) (j : Int) ≠ []) = decide (n5 ≠ 0)) := ⟨by
    rw [decide_eq_decide, ← hn5.out, ← hsame.out, psort_len]
    exact ⟨fun h1 h2 => h1 (List.eq_nil_of_length_eq_zero h2), fun h1 h2 => h1 (by rw [h2]; rfl)⟩⟩
  have hoth : Aside0 (∀ i : Nat, i ≠ j → atS (dropT T id) i = atS T i) := ⟨fun i hi => by
    rw [atS_drop, rm_none]
    obtain ⟨g1, g2, g3⟩ := hl2.out
    rw [← g3]
    exact atS_other HP.out g1 (by rw [g2]; omega)⟩
  have hmid : Aside0 (∀ w', MI .i64 3 w' m (upd (slotOf T) id none) (T.length - 1) → MI .i64 3 w' m (slotOf (dropT T id)) (dropT T id).length) := ⟨fun w' hM => by
    obtain ⟨g1, g2, g3⟩ := hl2.out
    have e1 := drop_len HP.out g1
    rw [g3] at e1
    rw [e1]
    exact hM.congr (fun x => (slotOf_drop HP.out id x).symm)⟩
  by_cases hn0 : n5 = 0
  · subst hn0
    have c65 : w9.cell? ⟨R, 65, none⟩ = some (.int .u64 fu) := (blk_cell hR9.out 65).trans (rc_full _ _ _)
    have hwo := Mk.without HU.out.1 (j : Int)
    go_wp2_with (go_at_call 65; refine (mask_Without.calls fu (j : Int) _ _ hwo).mono ?_; rintro e wB ⟨rfl, hdB⟩; have hbB := hdB.below; have hRB := Aside0.mk (blk_below hR9.out hbB); have z1 : wB.cell? ⟨R, 65, none⟩ = some (.int .u64 fu) := (blk_cell hRB.out 65).trans (rc_full _ _ _); have z2 := blk_frozen hRB.out 65)
    go_ret2
    have hset := blk_set hRB.out 65 (.int .u64 (Mk.wo fu (j : Int)))
    rw [rc_setFull] at hset
    have hFe := (Fr.of_below (F := fun k => k = R) hbB).trans (Fr.set wB R 65 (.int .u64 (Mk.wo fu (j : Int))))
    obtain ⟨g1, g2, g3, g4, g5⟩ := HA.out
    refine ⟨rfl, ⟨RI.rebuild (fu' := Mk.wo fu (j : Int)) (j := j) (v1 := .slice A5 0 c5) h3 g1 HR.out HM.out g2 g3 g4 g5 hj (hF9.out.trans (hFe.weak (fun k hk => .inl hk))) hset (hmid.out _ (hM9.out.fr hFe hmR.out.2)) (Mk.U_without HU.out.1 _) (fun k hk => ?_) ?_ hA8.out (HP.out.drop id) (fun i hi hij => by rw [hoth.out i hij])⟩⟩
    · rw [Mk.hs_without, HU.out.2 k hk]
      by_cases e : k = j
      · subst e
        rw [hn5b.out]
        simp
      · rw [hoth.out k e]
        have : ¬ (k : Int) = (j : Int) := by omega
        simp [this]
    · rw [hsame.out]
      exact Kd.R_mono (Kd.R_set (Kd.R_below hV9.out hbB) hRB.out (by decide) 65 (.int .u64 (Mk.wo fu (j : Int)))) (fun _ _ => trivial)
  · have hn1 : ¬ (n5 : Int) = 0 := by omega
    go_wp2
    go_ret2
    obtain ⟨g1, g2, g3, g4, g5⟩ := HA.out
    refine ⟨rfl, ⟨RI.rebuild (fu' := fu) (j := j) (v1 := .slice A5 n5 c5) h3 g1 HR.out HM.out g2 g3 g4 g5 hj hF9.out hR9.out (hmid.out _ hM9.out) HU.out.1 (fun k hk => ?_) ?_ hA8.out (HP.out.drop id) (fun i hi hij => by rw [hoth.out i hij])⟩⟩
    · by_cases e : k = j
      · subst e
        rw [hn5b.out, HU.out.2 k hk, decide_eq_true hn0, decide_eq_true]
        intro e2
        obtain ⟨q1, q2, q3⟩ := hl2.out
        have : l.f1 ∈ atS T (k : Int) := List.mem_map.2 ⟨l, List.mem_filter.2 ⟨q1, by simpa using q2⟩, rfl⟩
        rw [e2] at this
        exact absurd this List.not_mem_nil
      · rw [hoth.out k e, HU.out.2 k hk]
    · rw [hsame.out]
      exact Kd.R_mono hV9.out (fun _ _ => trivial)
end
end Go.Proofs.YtedolmjealgeoaaDoor.Rg

set_option linter.unusedVariables false
namespace Go.Proofs.YtedolmjealgeoaaDoor.Rg
open Go.RowKit Go.Maps Go.Proofs.YtedolmjealgeoaaDoor.PBase Go.Proofs.YtedolmjealgeoaaDoor.Cat Go.Proofs.YtedolmjealgeoaaDoorW.PrintWords Go.Proofs.YtedolmjealgeoaaDoorW.PrintLast Go.Proofs.YtedolmjealgeoaaDoorW.PrintMore
section
variable {N : Nat} {F : Nat → Prop} {W : World} {R : Nat} {T : List S114}
theorem RI.go (h : RI N F W R T) {w' : World} (hb : Below W.heap.size W w') : RGo N F W w' R T := ⟨F, h.step hb, fun k hk => .inl hk, Fr.of_below hb⟩
theorem drop_ring (h : RI N F W R T) (id : Int) (hw : (Lit.int .i64 id).wf = true) (hlen : T.length ≤ 100000) : Calls Tryd.prog 17 #[.pointer (some ⟨R, 0, none⟩), .int .i64 id] W fun e w' => e = .returned (.tuple #[.int .i64 ((slotOf T id).getD 0), .bool (slotOf T id).isSome]) ∧ Aside0 (RGo N F W w' R (dropT T id)) := by
  by_cases hd : id ∈ tid T
  · obtain ⟨l, hl, hid⟩ := tid_in.1 hd
    have hsl := h.pt.sl l hl
    have es : slotOf T id = some l.f0 := by rw [← hid]; exact slotOf_mem h.pt.nd hl
    have hT := drop_yes h l hl l.f0.toNat (by omega) id hid hlen
    rw [es]
    refine hT.mono ?_
    rintro e w' ⟨rfl, hg⟩
    have e1 : ((l.f0.toNat : Nat) : Int) = l.f0 := by omega
    rw [e1]
    exact ⟨rfl, hg⟩
  · rw [slotOf_none.2 hd, drop_none hd]
    refine (drop_no h id hd hw).mono ?_
    rintro e w' ⟨rfl, hb⟩
    exact ⟨rfl, ⟨h.go hb⟩⟩
/-- Put in one. -/
def putB (T : List S114) (slot : Int) (d : S31) : Bool := decide ((0 ≤ slot ∧ slot < 64) ∧ d.f0 ∉ tid T)
theorem put_ring (h : RI N F W R T) (slot : Int) (d : S31) (hw : (Lit.int .i64 d.f0).wf = true) (hlen : T.length ≤ 100000) : Calls Tryd.prog 15 #[.pointer (some ⟨R, 0, none⟩), .int .i64 slot, .agg #[.int .i64 d.f0, .int .u64 d.f1]] W fun e w' => e = .returned (.bool (putB T slot d)) ∧ Aside0 (RGo N F W w' R (if putB T slot d = true then ⟨slot, d⟩ :: T else T)) := by
  by_cases hs : 0 ≤ slot ∧ slot < 64
  · obtain ⟨j, rfl⟩ : ∃ j : Nat, slot = (j : Int) := ⟨slot.toNat, by omega⟩
    by_cases hd : d.f0 ∈ tid T
    · have e1 : putB T (j : Int) d = false := by unfold putB; rw [decide_eq_false (fun e => e.2 hd)]
      rw [e1]
      refine (put_twice h j (by omega) d hd hw).mono ?_
      rintro e w' ⟨rfl, hb⟩
      exact ⟨rfl, ⟨h.go hb⟩⟩
    · have e1 : putB T (j : Int) d = true := by unfold putB; rw [decide_eq_true ⟨hs, hd⟩]
      rw [e1]
      refine (put_calls h j (by omega) d hd hw hlen).mono ?_
      rintro e w' ⟨rfl, hg⟩
      exact ⟨rfl, hg⟩
  · have e1 : putB T slot d = false := by unfold putB; rw [decide_eq_false (fun e => hs e.1)]
    rw [e1]
    refine (put_out h slot d hs).mono ?_
    rintro e w' ⟨rfl, hb⟩
    exact ⟨rfl, ⟨h.go hb⟩⟩
end
/-- What is left behind the first i of the list. -/
def lessT (T : List S114) (L : List S31) (i : Nat) : List S114 := T.filter (fun l => !((ids (L.take i)).contains l.f1.f0))
theorem lessT_zero (T : List S114) (L : List S31) : lessT T L 0 = T := by
  unfold lessT
  exact List.filter_eq_self.2 (fun l _ => by simp [ids])
theorem ids_take (L : List S31) {i : Nat} (hi : i < L.length) : ids (L.take (i + 1)) = ids (L.take i) ++ [L[i].f0] := by
  unfold ids
  rw [List.take_succ_eq_append_getElem hi, List.map_append]
  rfl
theorem lessT_step (T : List S114) (L : List S31) {i : Nat} (hi : i < L.length) : lessT T L (i + 1) = dropT (lessT T L i) L[i].f0 := by
  unfold lessT dropT
  rw [List.filter_filter, ids_take L hi]
  apply List.filter_congr
  intro l _
  rw [List.contains_eq_any_beq, List.any_append, ← List.contains_eq_any_beq]
  simp [Bool.and_comm, Bool.not_or]
theorem ids_at {T : List S114} (p : PT T) (j : Int) : (ids (psort (atS T j))).Nodup := by
  have h1 : (ids (atS T j)).Nodup := by
    have e : ids (atS T j) = (T.filter (fun l => l.f0 == j)).map (·.f1.f0) := by
      unfold ids atS
      rw [List.map_map]
      rfl
    rw [e]
    exact p.nd.sublist (List.filter_sublist.map _)
  exact ((psort_perm _).map _).nodup_iff.2 h1
theorem at_in {T : List S114} {j : Int} {d : S31} (h : d ∈ psort (atS T j)) : ⟨j, d⟩ ∈ T := by
  obtain ⟨l, hl, rfl⟩ := List.mem_map.1 ((psort_perm _).mem_iff.1 h)
  have h2 := List.mem_filter.1 hl
  have h3 : l.f0 = j := by simpa using h2.2
  have e : (⟨j, l.f1⟩ : S114) = l := by rw [← h3]
  rw [e]
  exact h2.1
theorem less_in {T : List S114} (p : PT T) (j : Int) {i : Nat} (hi : i < (psort (atS T j)).length) : (⟨j, (psort (atS T j))[i]⟩ : S114) ∈ lessT T (psort (atS T j)) i := by
  refine List.mem_filter.2 ⟨at_in (List.getElem_mem hi), ?_⟩
  have hn := ids_at p j
  have h1 : (psort (atS T j))[i].f0 ∉ ids ((psort (atS T j)).take i) := by
    have h2 := hn
    rw [← List.take_append_drop i (psort (atS T j)), show ∀ a b : List S31, ids (a ++ b) = ids a ++ ids b from fun a b => List.map_append] at h2
    have h3 := (List.nodup_append.1 h2).2.2
    intro e
    exact h3 _ e _ (List.mem_map.2 ⟨_, by rw [List.drop_eq_getElem_cons hi]; exact List.mem_cons_self, rfl⟩) rfl
  simpa using h1
theorem less_all {T : List S114} (p : PT T) (j : Int) : lessT T (psort (atS T j)) (psort (atS T j)).length = T.filter (fun l => !(l.f0 == j)) := by
  unfold lessT
  rw [List.take_length]
  apply List.filter_congr
  intro l hl
  congr 1
  rw [Bool.eq_iff_iff]
  have e1 : (ids (psort (atS T j))).contains l.f1.f0 = true ↔ l.f1.f0 ∈ ids (psort (atS T j)) := by simp
  rw [e1, psort_ids]
  constructor
  · intro h
    obtain ⟨d, hd, e⟩ := List.mem_map.1 h
    obtain ⟨a, ha, rfl⟩ := List.mem_map.1 hd
    have h2 := List.mem_filter.1 ha
    have h3 := slotOf_mem p.nd h2.1
    rw [e, slotOf_mem p.nd hl] at h3
    have h4 : a.f0 = j := by simpa using h2.2
    rw [← h4, ← Option.some.inj h3]
    simp
  · intro h
    exact List.mem_map.2 ⟨l.f1, List.mem_map.2 ⟨l, List.mem_filter.2 ⟨hl, h⟩, rfl⟩, rfl⟩
section
variable {N : Nat} {F : Nat → Prop} {W : World} {R : Nat} {T : List S114}
set_option maxHeartbeats 4000000 in
set_option maxRecDepth 100000 in
theorem take_calls (h : RI N F W R T) (j : Nat) (hj : j < 64) (hlen : T.length ≤ 100000) : Calls Tryd.prog 20 #[.pointer (some ⟨R, 0, none⟩), .int .i64 j] W fun e w' => ∃ v, e = .returned v ∧ Aside0 (∃ F', Kd.R k31 31 w' W.heap.size (fun k => ¬ F' k) v (psort (atS T j)) ∧ RI N F' w' R (T.filter (fun l => !(l.f0 == (j : Int)))) ∧ (∀ k, F' k → F k ∨ W.heap.size ≤ k) ∧ Fr F W w') := by
  have hle := h.len_le (j : Int)
  have H := Aside0.mk h
  clear h
  obtain ⟨L, hL⟩ : ∃ L, psort (atS T (j : Int)) = L := ⟨_, rfl⟩
  have HL := Aside0.mk hL
  rw [hL] at hle ⊢
  clear hL
  go_enter Tryd.func20, Tryd.ntmps20
  go_upto_region 2 with (go_at_call 22; have hT := list_calls H.out j hj (by omega); rw [HL.out] at hT; refine hT.mono ?_; clear hT; rintro e w1 ⟨v, rfl, hR, hb1⟩)
  have HR := Aside0.mk (Kd.R_bound hR)
  have HB := Aside0.mk hb1
  obtain ⟨A, c, rfl, hc, hC⟩ := Kd.R_reads hR
  clear hR hC hb1 hc
  go_wp2
  go_loopg [13] L.length (fun gg v13 wr => ∃ (i : Nat), v13 = .int .i64 i ∧ i ≤ L.length ∧ L.length - i ≤ gg ∧ Aside0 (∃ F', RI N F' wr R (lessT T L i) ∧ (∀ k, F' k → F k ∨ w1.heap.size ≤ k) ∧ Fr F w1 wr))
  case atStart => exact ⟨0, rfl, by omega, by omega, ⟨F, by rw [lessT_zero]; exact H.out.step HB.out, fun k hk => .inl hk, Fr.refl _ _⟩⟩
  case round =>
    obtain ⟨i, rfl, hi, hgg, hI⟩ := hrel
    by_cases hlt : i < L.length
    · have hltz : (i : Int) < (L.length : Int) := by omega
      obtain ⟨F1, g1, g2, g3⟩ := hI.out
      have g1 := Aside0.mk g1
      have g2 := Aside0.mk g2
      have g3 := Aside0.mk g3
      have hRr := Kd.R_kept HR.out (S := F) ⟨g3.out.size, fun i hi hn => g3.out.blk i hi hn⟩ (fun k hk e => by have := (H.out.lt k e).2; omega)
      obtain ⟨ad, e1, hx0, hx1⟩ := at_T31 (Kd.R_reads' hRr).2.2 (i : Int) (by omega) hltz
      subst e1
      rw [Int.toNat_natCast] at hx0 hx1
      obtain ⟨x, hx⟩ : ∃ x, L[i] = x := ⟨_, rfl⟩
      rw [rd_nat L i hlt, hx] at hx0 hx1
      have hX := Aside0.mk hx
      clear hx hRr hI
      have hin : Aside0 ((⟨(j : Int), x⟩ : S114) ∈ lessT T L i) := ⟨by
        have h1 := less_in H.out.pt (j : Int) (i := i) (by rw [HL.out]; exact hlt)
        simp only [HL.out] at h1
        rw [hX.out] at h1
        exact h1⟩
      have hll : (lessT T L i).length ≤ 100000 := Nat.le_trans (List.length_filter_le _ _) hlen
      have hbx := Aside0.mk (below_alloc (Below.refl wr.heap.size wr) (.cells #[.int .i64 x.f0, .int .u64 x.f1] 31))
      go_wp2_with (go_at_call 17; have hT := drop_yes (g1.out.step hbx.out) ⟨(j : Int), x⟩ hin.out j rfl x.f0 rfl hll; refine hT.mono ?_; clear hT; rintro e w2 ⟨rfl, hg⟩)
      go_roundg (L.length - (i + 1))
      case measure => omega
      case rel =>
        refine ⟨i + 1, by go_num, by omega, Nat.le_refl _, ⟨?_⟩⟩
        obtain ⟨F2, k1, k2, k3⟩ := hg.out
        refine ⟨F2, by rw [lessT_step T L hlt, hX.out]; exact k1, fun k hk => ?_, (g3.out.trans (Fr.of_below hbx.out)).then_ k3 (fun b hb => g2.out b hb)⟩
        rcases k2 k hk with hk | hk
        · exact g2.out k hk
        · exact .inr (Nat.le_trans g3.out.size (Nat.le_trans hbx.out.size hk))
    · obtain rfl : i = L.length := by omega
      have hltz : ¬ (L.length : Int) < (L.length : Int) := by omega
      go_wp2
      go_ret
      refine ⟨_, rfl, ⟨?_⟩⟩
      obtain ⟨F1, g1, g2, g3⟩ := hI.out
      have e2 := less_all H.out.pt (j : Int)
      rw [HL.out] at e2
      rw [e2] at g1
      refine ⟨F1, ?_, g1, fun k hk => ?_, (Fr.of_below HB.out).trans g3⟩
      · refine Kd.R_mono (Kd.R_kept HR.out (S := F) ⟨g3.size, fun i hi hn => g3.blk i hi hn⟩ (fun k hk e => by have := (H.out.lt k e).2; omega)) (fun k hk e => ?_)
        rcases g2 k e with e | e
        · have := (H.out.lt k e).2; omega
        · omega
      · rcases g2 k hk with hk | hk
        · exact .inl hk
        · exact .inr (Nat.le_trans HB.out.size hk)
end
end Go.Proofs.YtedolmjealgeoaaDoor.Rg

set_option linter.unusedVariables false
namespace Go.Proofs.YtedolmjealgeoaaDoor.Rg
open Go.RowKit Go.Maps Go.Proofs.YtedolmjealgeoaaDoor.PBase Go.Proofs.YtedolmjealgeoaaDoor.Cat Go.Proofs.YtedolmjealgeoaaDoorW.PrintWords Go.Proofs.YtedolmjealgeoaaDoorW.PrintLast Go.Proofs.YtedolmjealgeoaaDoorW.PrintMore
/-- A ring whose blocks are none of X. -/
structure RJ (N : Nat) (X : Nat → Prop) (W : World) (R : Nat) (T : List S114) : Prop where
  ex : ∃ F, RI N F W R T ∧ ∀ k, X k → ¬ F k
  xs : ∀ k, X k → k < W.heap.size
/-- What may change. -/
abbrev KX (N : Nat) (X : Nat → Prop) (k : Nat) : Prop := N ≤ k ∧ ¬ X k
theorem Fr.b0 {N : Nat} {X : Nat → Prop} {W W1 : World} (h : Fr (KX N X) W W1) : Fr (fun k => N ≤ k) W W1 := h.weak (fun _ h => h.1)
theorem Fr.of_b0 {N : Nat} {W w' : World} (hb : Below W.heap.size W w') : Fr (fun k => N ≤ k) W w' := Fr.of_below hb
theorem R_fr {N b : Nat} {X : Nat → Prop} {W w' : World} {v : Value} {M : List S31} (hR : Kd.R k31 31 W b X v M) (hf : Fr (KX N X) W w') : Kd.R k31 31 w' b X v M :=
  Kd.R_kept hR (S := KX N X) ⟨hf.size, fun i hi hn => hf.blk i hi hn⟩ (fun _ hx hk => hk.2 hx)
section
variable {N : Nat} {X Y : Nat → Prop} {W W' : World} {R : Nat} {T : List S114}
theorem RJ.of_go {F : Nat → Prop} {w' : World} {T' : List S114} (h : RI N F W R T) (hX : ∀ k, X k → ¬ F k) (xs : ∀ k, X k → k < W.heap.size) (hg : RGo N F W w' R T') : RJ N X w' R T' ∧ Fr (KX N X) W w' := by
  obtain ⟨F', k1, k2, k3⟩ := hg
  refine ⟨⟨⟨F', k1, fun k hk e => ?_⟩, fun k hk => Nat.lt_of_lt_of_le (xs k hk) k3.size⟩, k3.weak (fun k hk => ⟨(h.lt k hk).1, fun hx => hX k hx hk⟩)⟩
  rcases k2 k e with e | e
  · exact hX k hk e
  · have := xs k hk; omega
theorem RJ.step (h : RJ N X W R T) (hb : Below W.heap.size W W') : RJ N X W' R T := by
  obtain ⟨⟨F, h1, h2⟩, h3⟩ := h
  exact ⟨⟨F, h1.step hb, h2⟩, fun k hk => Nat.lt_of_lt_of_le (h3 k hk) hb.size⟩
theorem RJ.sub (h : RJ N X W R T) (hs : ∀ k, Y k → X k) : RJ N Y W R T := by
  obtain ⟨⟨F, h1, h2⟩, h3⟩ := h
  exact ⟨⟨F, h1, fun k hk => h2 k (hs k hk)⟩, fun k hk => h3 k (hs k hk)⟩
theorem RJ.more (h : RJ N X W R T) (hb : Below W.heap.size W W') (hY : ∀ k, Y k → W.heap.size ≤ k ∧ k < W'.heap.size) : RJ N (fun k => X k ∨ Y k) W' R T := by
  obtain ⟨⟨F, h1, h2⟩, h3⟩ := h
  refine ⟨⟨F, h1.step hb, fun k hk e => ?_⟩, fun k hk => ?_⟩
  · rcases hk with hk | hk
    · exact h2 k hk e
    · have := (h1.lt k e).2
      have := (hY k hk).1
      omega
  · rcases hk with hk | hk
    · exact Nat.lt_of_lt_of_le (h3 k hk) hb.size
    · exact (hY k hk).2
theorem RJ.keep (h : RJ N X W R T) (hf : Fr X W W') : RJ N X W' R T := by
  obtain ⟨⟨F, h1, h2⟩, h3⟩ := h
  exact ⟨⟨F, h1.keep hf (fun k hk hx => h2 k hx hk), h2⟩, fun k hk => Nat.lt_of_lt_of_le (h3 k hk) hf.size⟩
theorem RJ.swap {X1 : Nat → Prop} (h : RJ N X W R T) (hf : Fr X W W') (hX : ∀ k, X1 k → (X k ∨ W.heap.size ≤ k) ∧ k < W'.heap.size) : RJ N X1 W' R T := by
  obtain ⟨⟨F, h1, h2⟩, h3⟩ := h
  refine ⟨⟨F, h1.keep hf (fun k hk hx => h2 k hx hk), fun k hk e => ?_⟩, fun k hk => (hX k hk).2⟩
  rcases (hX k hk).1 with hk | hk
  · exact h2 k hk e
  · have := (h1.lt k e).2
    omega
theorem RJ.perm {U : List S114} (h : RJ N X W R T) (hp : T.Perm U) : RJ N X W R U := by
  obtain ⟨⟨F, h1, h2⟩, h3⟩ := h
  exact ⟨⟨F, h1.perm hp, h2⟩, h3⟩
theorem RJ.pt (h : RJ N X W R T) : PT T := by
  obtain ⟨⟨F, h1, h2⟩, h3⟩ := h
  exact h1.pt
theorem RJ.base_le (h : RJ N X W R T) : N ≤ W.heap.size := by
  obtain ⟨⟨F, h1, h2⟩, h3⟩ := h
  have := h1.lt R h1.fr
  omega
theorem new_J (W : World) : Calls Tryd.prog 13 #[] W fun e w' => ∃ R, e = .returned (.pointer (some ⟨R, 0, none⟩)) ∧ RJ W.heap.size (fun _ => False) w' R [] ∧ Below W.heap.size W w' := by
  refine (new_calls W).mono ?_
  rintro e w' ⟨R, F, rfl, h, hb⟩
  exact ⟨R, rfl, ⟨⟨F, h, fun _ h => h.elim⟩, fun _ h => h.elim⟩, hb⟩
theorem RJ.lower (h : RJ N X W R T) {M : Nat} (hM : M ≤ N) : RJ M X W R T := by
  obtain ⟨⟨F, ⟨h1, ⟨m, fu, vs, a1, a2, a3, a4, a5, a6⟩, p3, p4⟩, h2⟩, h3⟩ := h
  exact ⟨⟨F, ⟨h1, ⟨m, fu, vs, a1, a2, a3, a4, fun j hj => Kd.R_lower (a5 j hj) hM, a6⟩, p3, fun k hk => ⟨Nat.le_trans hM (p4 k hk).1, (p4 k hk).2⟩⟩, h2⟩, h3⟩
theorem put_J (h : RJ N X W R T) (slot : Int) (d : S31) (hw : (Lit.int .i64 d.f0).wf = true) (hlen : T.length ≤ 100000) (b : Bool) (hb : putB T slot d = b) (U : List S114) (hU : (if b = true then ⟨slot, d⟩ :: T else T) = U) : Calls Tryd.prog 15 #[.pointer (some ⟨R, 0, none⟩), .int .i64 slot, .agg #[.int .i64 d.f0, .int .u64 d.f1]] W fun e w' => e = .returned (.bool b) ∧ RJ N X w' R U ∧ Fr (KX N X) W w' := by
  obtain ⟨⟨F, h1, h2⟩, h3⟩ := h
  subst hb hU
  refine (put_ring h1 slot d hw hlen).mono ?_
  rintro e w' ⟨rfl, hg⟩
  exact ⟨rfl, RJ.of_go h1 h2 h3 hg.out⟩
theorem drop_J (h : RJ N X W R T) (id : Int) (hw : (Lit.int .i64 id).wf = true) (hlen : T.length ≤ 100000) (r : Option Int) (hr : slotOf T id = r) : Calls Tryd.prog 17 #[.pointer (some ⟨R, 0, none⟩), .int .i64 id] W fun e w' => e = .returned (.tuple #[.int .i64 (r.getD 0), .bool r.isSome]) ∧ RJ N X w' R (dropT T id) ∧ Fr (KX N X) W w' := by
  obtain ⟨⟨F, h1, h2⟩, h3⟩ := h
  subst hr
  refine (drop_ring h1 id hw hlen).mono ?_
  rintro e w' ⟨rfl, hg⟩
  exact ⟨rfl, RJ.of_go h1 h2 h3 hg.out⟩
theorem len_J (h : RJ N X W R T) : Calls Tryd.prog 25 #[.pointer (some ⟨R, 0, none⟩)] W fun e w' => e = .returned (.int .i64 T.length) ∧ Below W.heap.size W w' := by
  obtain ⟨⟨F, h1, h2⟩, h3⟩ := h
  exact len_calls h1
theorem mask_J (h : RJ N X W R T) : Calls Tryd.prog 28 #[.pointer (some ⟨R, 0, none⟩)] W fun e w' => ∃ fu, e = .returned (.int .u64 fu) ∧ Mk.U fu ∧ (∀ j : Nat, j < 64 → Mk.hs fu j = decide (atS T j ≠ [])) ∧ Below W.heap.size W w' := by
  obtain ⟨⟨F, h1, h2⟩, h3⟩ := h
  exact mask_calls h1
theorem first_J (h : RJ N X W R T) (hT : Tz.TabOk W) (slot : Int) : Calls Tryd.prog 26 #[.pointer (some ⟨R, 0, none⟩), .int .i64 slot] W fun e w' => ∃ fu r, e = .returned (.tuple #[.int .i64 r.1, .bool r.2]) ∧ Mk.U fu ∧ (∀ j : Nat, j < 64 → Mk.hs fu j = decide (atS T j ≠ [])) ∧ Mk.IsRound fu slot r ∧ Below W.heap.size W w' := by
  obtain ⟨⟨F, h1, h2⟩, h3⟩ := h
  exact first_calls h1 hT slot
/-- What a slot's list holds: nothing, where there is no such slot. -/
def lst (T : List S114) (slot : Int) : List S31 := if 0 ≤ slot ∧ slot < 64 then psort (atS T slot) else []
theorem list_J (h : RJ N X W R T) (slot : Int) (hl : T.length ≤ 100000) : Calls Tryd.prog 22 #[.pointer (some ⟨R, 0, none⟩), .int .i64 slot] W fun e w' => ∃ v, e = .returned v ∧ Kd.R k31 31 w' W.heap.size (fun _ => True) v (lst T slot) ∧ Below W.heap.size W w' := by
  obtain ⟨⟨F, h1, h2⟩, h3⟩ := h
  by_cases hs : 0 ≤ slot ∧ slot < 64
  · unfold lst
    rw [if_pos hs]
    obtain ⟨j, rfl⟩ : ∃ j : Nat, slot = (j : Int) := ⟨slot.toNat, by omega⟩
    exact list_calls h1 j (by omega) (by omega)
  · unfold lst
    rw [if_neg hs]
    refine (list_out h1 slot hs).mono ?_
    rintro e w' ⟨rfl, hb⟩
    exact ⟨_, rfl, Kd.R_nil _ _ _ _ _, hb⟩
theorem take_out {F : Nat → Prop} (h : RI N F W R T) (slot : Int) (hj : ¬ (0 ≤ slot ∧ slot < 64)) : Calls Tryd.prog 20 #[.pointer (some ⟨R, 0, none⟩), .int .i64 slot] W fun e w' => e = .returned (.slice none 0 0) ∧ Below W.heap.size W w' := by
  go_enter Tryd.func20, Tryd.ntmps20
  go_wp2_with (go_at_call 22; refine (list_out h slot hj).mono ?_; rintro e w1 ⟨rfl, hb1⟩)
  go_loopg [13] 1 (fun gg v13 wr => v13 = .int .i64 0 ∧ wr = w1)
  case atStart => exact ⟨rfl, rfl⟩
  case round =>
    obtain ⟨rfl, rfl⟩ := hrel
    go_wp2
    go_ret
    exact ⟨rfl, hb1⟩
theorem take_nil (W : World) (slot : Int) : Calls Tryd.prog 20 #[.pointer none, .int .i64 slot] W fun e w' => e = .returned (.slice none 0 0) ∧ Below W.heap.size W w' := by
  go_enter Tryd.func20, Tryd.ntmps20
  go_wp2_with (go_at_call 22; refine (list_nil _ slot).mono ?_; rintro e w1 ⟨rfl, hb1⟩)
  go_loopg [13] 1 (fun gg v13 wr => v13 = .int .i64 0 ∧ wr = w1)
  case atStart => exact ⟨rfl, rfl⟩
  case round =>
    obtain ⟨rfl, rfl⟩ := hrel
    go_wp2
    go_ret
    exact ⟨rfl, hb1⟩
theorem first_nil (W : World) (slot : Int) (hT : Tz.TabOk W) : Calls Tryd.prog 26 #[.pointer none, .int .i64 slot] W fun e w' => e = .returned (.tuple #[.int .i64 0, .bool false]) ∧ Below W.heap.size W w' := by
  have hU : Mk.U 0 := by unfold Mk.U; omega
  obtain ⟨r, hr, hi⟩ := Mk.round hU slot
  have e1 : r = (0, false) := by
    have hz : ∀ k, Mk.hs 0 k = false := fun k => by unfold Mk.hs; simp
    have hn : ∀ f s, Mk.IsNext 0 f s → s = (0, false) := fun f s h => by
      rcases h with ⟨_, _, _, h, _⟩ | ⟨h, _⟩
      · rw [hz] at h; cases h
      · exact h
    unfold Mk.IsRound at hi
    split at hi
    · obtain ⟨s, hs, hi⟩ := hi
      rw [hn _ _ hs] at hi
      exact hn _ _ hi
    · exact hi
  subst e1
  replace hr := Aside0.mk hr
  replace hT := Aside0.mk hT
  clear hi
  go_enter Tryd.func26, Tryd.ntmps26
  go_wp2_with (first
    | (go_at_call 28; refine (mask_nil _).mono ?_; rintro e w1 ⟨rfl, hb1⟩)
    | (go_at_call 70; refine (mask_Round.calls 0 slot _ _ _ hr.out (hT.out.below hb1)).mono ?_; rintro e w2 ⟨rfl, hb2⟩))
  go_ret2
  exact ⟨rfl, below_step hb1 hb2⟩
/-- What is left behind a Take. -/
def takeT (T : List S114) (slot : Int) : List S114 := T.filter (fun l => !(l.f0 == slot))
theorem take_J (h : RJ N X W R T) (slot : Int) (hlen : T.length ≤ 100000) : Calls Tryd.prog 20 #[.pointer (some ⟨R, 0, none⟩), .int .i64 slot] W fun e w' => ∃ v, e = .returned v ∧ Aside0 (Kd.R k31 31 w' W.heap.size (fun k => v.ownBlock = some k) v (lst T slot) ∧ RJ N (fun k => X k ∨ v.ownBlock = some k) w' R (takeT T slot) ∧ Fr (KX N X) W w') := by
  obtain ⟨⟨F, h1, h2⟩, h3⟩ := h
  by_cases hs : 0 ≤ slot ∧ slot < 64
  · unfold lst
    rw [if_pos hs]
    obtain ⟨j, rfl⟩ : ∃ j : Nat, slot = (j : Int) := ⟨slot.toNat, by omega⟩
    refine (take_calls h1 j (by omega) hlen).mono ?_
    rintro e w' ⟨v, rfl, hg⟩
    obtain ⟨F', k0, k1, k2, k3⟩ := hg.out
    refine ⟨v, rfl, ⟨Kd.R_mono (Kd.R_tight2 rfl k0) (fun k hk => hk.1.symm), ⟨⟨F', k1, fun k hk e => ?_⟩, fun k hk => ?_⟩, k3.weak (fun k hk => ⟨(h1.lt k hk).1, fun hx => h2 k hx hk⟩)⟩⟩
    · rcases hk with hk | hk
      · rcases k2 k e with e | e
        · exact h2 k hk e
        · have := h3 k hk; omega
      · exact (Kd.R_tight2 rfl k0).1 k hk |>.2 e
    · rcases hk with hk | hk
      · exact Nat.lt_of_lt_of_le (h3 k hk) k3.size
      · exact own_lt (own_of_R k0) k hk
  · unfold lst
    rw [if_neg hs]
    have e1 : takeT T slot = T := by
      unfold takeT
      refine List.filter_eq_self.2 (fun l hl => ?_)
      have := h1.pt.sl l hl
      have : ¬ l.f0 = slot := by omega
      simpa using this
    rw [e1]
    refine (take_out h1 slot hs).mono ?_
    rintro e w' ⟨rfl, hb⟩
    exact ⟨_, rfl, ⟨Kd.R_nil _ _ _ _ _, ⟨⟨F, h1.step hb, fun k hk => by
      rcases hk with hk | hk
      · exact h2 k hk
      · cases hk⟩, fun k hk => by
      rcases hk with hk | hk
      · exact Nat.lt_of_lt_of_le (h3 k hk) hb.size
      · cases hk⟩, Fr.of_below hb⟩⟩
end
end Go.Proofs.YtedolmjealgeoaaDoor.Rg

set_option linter.unusedVariables false
namespace Go.Proofs.YtedolmjealgeoaaDoor.Rg
open Go.RowKit Go.Maps Go.Proofs.YtedolmjealgeoaaDoor.PBase Go.Proofs.YtedolmjealgeoaaDoor.Cat Go.Proofs.YtedolmjealgeoaaDoorW.PrintWords Go.Proofs.YtedolmjealgeoaaDoorW.PrintLast Go.Proofs.YtedolmjealgeoaaDoorW.PrintMore
theorem wf_small {x : Int} (h0 : 0 ≤ x) (h1 : x ≤ 1000000) : (Lit.int .i64 x).wf = true := Go.WalkArith.wf_i64 (by omega)
theorem wk_list : lst [⟨3, ⟨1, 67⟩⟩, ⟨3, ⟨2, 67⟩⟩] 3 = [⟨1, 67⟩, ⟨2, 67⟩] := by
  unfold lst
  rw [if_pos (by omega)]
  refine psort_of ?_ ?_
  · unfold So
    rw [List.pairwise_cons]
    refine ⟨fun b hb => ?_, List.pairwise_singleton _ _⟩
    rw [List.mem_singleton.1 hb]
    rw [nb_iff]
    simp
  · exact List.Perm.refl _
set_option maxHeartbeats 4000000 in
set_option maxRecDepth 100000 in
theorem wakes5 (W : World) : Calls Tryd.prog 24 #[] W fun e w' => e = .returned (.bool true) ∧ Below W.heap.size W w' := by
  have w2 := wf_small (x := 2) (by omega) (by omega)
  have w1 := wf_small (x := 1) (by omega) (by omega)
  go_enter Tryd.func24, Tryd.ntmps24
  go_upto_region 4 with (go_at_call 13; refine (new_J _).mono ?_; rintro e wa ⟨R, rfl, hJ, hb⟩)
  have hJ := Aside0.mk hJ
  have hb := Aside0.mk hb
  have p1 : putB [] 3 ⟨2, 67⟩ = true := by simp [putB, tid]
  have p2 : putB [⟨3, ⟨2, 67⟩⟩] 3 ⟨1, 67⟩ = true := by simp [putB, tid]
  have p3 : putB [⟨3, ⟨1, 67⟩⟩, ⟨3, ⟨2, 67⟩⟩] 4 ⟨1, 5⟩ = false := by simp [putB, tid]
  have P := Aside0.mk (And.intro w1 (And.intro w2 (And.intro p1 (And.intro p2 p3))))
  clear w1 w2 p1 p2 p3
  go_upto_region 5 with (first
    | (go_at_call 15; have hT := put_J hJ.out 3 ⟨2, 67⟩ P.out.2.1 (Nat.zero_le _) true P.out.2.2.1 [⟨3, ⟨2, 67⟩⟩] rfl; refine hT.mono ?_; clear hT hJ; rintro e wb ⟨rfl, hJ1, hf1⟩; replace hJ1 := Aside0.mk hJ1)
    | (go_at_call 15; have hT := put_J hJ1.out 3 ⟨1, 67⟩ P.out.1 (by simp) true P.out.2.2.2.1 [⟨3, ⟨1, 67⟩⟩, ⟨3, ⟨2, 67⟩⟩] rfl; refine hT.mono ?_; clear hT hJ1; rintro e wc ⟨rfl, hJ2, hf2⟩; replace hJ2 := Aside0.mk hJ2))
  go_upto_region 6 with (go_at_call 15; have hT := put_J hJ2.out 4 ⟨1, 5⟩ P.out.1 (by simp) false P.out.2.2.2.2 [⟨3, ⟨1, 67⟩⟩, ⟨3, ⟨2, 67⟩⟩] rfl; refine hT.mono ?_; clear hT hJ2; rintro e wd ⟨rfl, hJ3, hf3⟩; replace hJ3 := Aside0.mk hJ3)
  go_upto_region 7 with (go_at_call 20; have hT := take_J hJ3.out 3 (by simp); refine hT.mono ?_; clear hT hJ3; rintro e we ⟨v, rfl, hT⟩)
  have hR := hT.out.1
  rw [wk_list] at hR
  obtain ⟨A, c, rfl, hc, hC⟩ := Kd.R_reads hR
  obtain ⟨ad, e1, x0, x1⟩ := at_T31 hC 0 (by omega) (by simp)
  subst e1
  obtain ⟨ad', e2, y0, y1⟩ := at_T31 hC 1 (by omega) (by simp)
  cases e2
  replace x0 : we.cell? ad = some (.int .i64 1) := x0
  replace y0 : we.cell? ⟨ad.block, ad.off + 2, none⟩ = some (.int .i64 2) := y0
  clear hR hC hc x1 y1
  have hfe := Aside0.mk (((((Fr.of_b0 hb.out).trans hf1.b0).trans hf2.b0).trans hf3.b0).trans hT.out.2.2.b0)
  have hlen := hT.out.2.1
  rw [show takeT [⟨3, ⟨1, 67⟩⟩, ⟨3, ⟨2, 67⟩⟩] 3 = [] from by simp [takeT]] at hlen
  replace hlen := Aside0.mk hlen
  clear hT hf1 hf2 hf3
  go_wp2_with (go_at_call 25; refine (len_J hlen.out).mono ?_; rintro e wf ⟨rfl, hbf⟩)

  go_ret
  exact ⟨rfl, (hfe.out.trans (Fr.of_b0 hbf)).below (Nat.le_refl _) (fun k h => h)⟩
end Go.Proofs.YtedolmjealgeoaaDoor.Rg
