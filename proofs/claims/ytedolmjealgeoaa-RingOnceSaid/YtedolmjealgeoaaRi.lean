/- A ring in memory; New, is, Len, Mask, First, List as calls. Conditions: the ring lies in memory as told. -/
import Derived.Test.YtedolmjealgeoaaMp
import Derived.Test.YtedolmjealgeoaaMk
import Derived.Test.YtedolmjealgeoaaDf
import Derived.Test.YtedolmjealgeoaaCl
import Derived.Test.YtedolmjealgeoaaSo
set_option linter.unusedVariables false
namespace Go.Proofs.Ytedolmjealgeoaa.Rg
open Go.RowKit Go.Maps Go.Proofs.Ytedolmjealgeoaa.PBase Go.Proofs.Ytedolmjealgeoaa.Cat Go.Proofs.YtedolmjealgeoaaW.PrintWords Go.Proofs.YtedolmjealgeoaaW.PrintLast Go.Proofs.YtedolmjealgeoaaW.PrintMore
/-- A timer in a slot. -/
structure S114 where
  f0 : Int
  f1 : S24
/-- What lies in a slot. -/
def atS (T : List S114) (j : Int) : List S24 := (T.filter (fun l => l.f0 == j)).map (·.f1)
/-- A number's slot. -/
def slotOf (T : List S114) (x : Int) : Option Int := (T.find? (fun l => l.f1.f0 == x)).map (·.f0)
def tid (T : List S114) : List Int := T.map (·.f1.f0)
structure PT (T : List S114) : Prop where
  nd : (tid T).Nodup
  sl : ∀ l ∈ T, 0 ≤ l.f0 ∧ l.f0 < 64
  wf : ∀ l ∈ T, (Lit.int .i64 l.f1.f0).wf = true
/-- A ring's cells. -/
def rcells (vs : Nat → Value) (m : Nat) (fu : Int) : Array Value := ((List.range 64).map vs ++ [Value.map (some m), Value.int .u64 fu]).toArray
theorem rc_at (vs : Nat → Value) (m : Nat) (fu : Int) {j : Nat} (hj : j < 64) : (rcells vs m fu)[j]? = some (vs j) := by
  unfold rcells
  rw [List.getElem?_toArray, List.getElem?_append_left (by simp; omega), List.getElem?_map, List.getElem?_range hj]
  rfl
theorem rc_map (vs : Nat → Value) (m : Nat) (fu : Int) : (rcells vs m fu)[64]? = some (.map (some m)) := by
  unfold rcells
  rw [List.getElem?_toArray, List.getElem?_append_right (by simp)]
  simp
theorem rc_full (vs : Nat → Value) (m : Nat) (fu : Int) : (rcells vs m fu)[65]? = some (.int .u64 fu) := by
  unfold rcells
  rw [List.getElem?_toArray, List.getElem?_append_right (by simp)]
  simp
def vput (vs : Nat → Value) (j : Nat) (v : Value) : Nat → Value := fun k => if k = j then v else vs k
theorem vput_same (vs : Nat → Value) (j : Nat) (v : Value) : vput vs j v j = v := if_pos rfl
theorem vput_other {vs : Nat → Value} {j k : Nat} {v : Value} (h : k ≠ j) : vput vs j v k = vs k := if_neg h
theorem rc_set (vs : Nat → Value) (m : Nat) (fu : Int) {j : Nat} (hj : j < 64) (v : Value) : (rcells vs m fu).setIfInBounds j v = rcells (vput vs j v) m fu := by
  unfold rcells
  rw [List.setIfInBounds_toArray, List.set_append_left _ _ (by simp; omega)]
  congr 2
  apply List.ext_getElem?
  intro k
  rw [List.getElem?_set, List.getElem?_map, List.getElem?_map]
  by_cases hk : j = k
  · subst hk
    rw [if_pos rfl, if_pos (by simp; omega), List.getElem?_range hj]
    simp [vput]
  · rw [if_neg hk]
    rcases Nat.lt_or_ge k 64 with h | h
    · rw [List.getElem?_range h]
      simp [vput, Ne.symm hk]
    · rw [List.getElem?_eq_none (by simp; omega)]
      rfl
theorem rc_setFull (vs : Nat → Value) (m : Nat) (fu fu2 : Int) : (rcells vs m fu).setIfInBounds 65 (.int .u64 fu2) = rcells vs m fu2 := by
  unfold rcells
  rw [List.setIfInBounds_toArray, List.set_append_right _ _ (by simp)]
  simp
/-- A ring in memory: its block R, the map's m, the slots' rows; F: its blocks. -/
structure RI (N : Nat) (F : Nat → Prop) (W : World) (R : Nat) (T : List S114) : Prop where
  pt : PT T
  ex : ∃ (m : Nat) (fu : Int) (vs : Nat → Value), W.heap[R]? = some (.cells (rcells vs m fu) 40 (0, 0)) ∧ MI .i64 3 W m (slotOf T) T.length ∧ Mk.U fu ∧ (∀ j : Nat, j < 64 → Mk.hs fu j = decide (atS T j ≠ [])) ∧
    (∀ j : Nat, j < 64 → Kd.R k24 24 W N (fun _ => True) (vs j) (psort (atS T j))) ∧ (∀ i j b : Nat, i < 64 → j < 64 → (vs i).ownBlock = some b → (vs j).ownBlock = some b → i = j) ∧ F m ∧ (∀ j b : Nat, j < 64 → (vs j).ownBlock = some b → F b)
  fr : F R
  lt : ∀ k, F k → N ≤ k ∧ k < W.heap.size
section
variable {N : Nat} {F : Nat → Prop} {W W' : World} {R : Nat} {T : List S114}
theorem RI.keep {G : Nat → Prop} (h : RI N F W R T) (hf : Fr G W W') (hG : ∀ k, F k → ¬ G k) : RI N F W' R T := by
  obtain ⟨h1, ⟨m, fu, vs, a1, a2, a3, a4, a5, a6, a7, a8⟩, h3, h4⟩ := h
  refine ⟨h1, ⟨m, fu, vs, (hf.blk R (h4 R h3).2 (hG R h3)).trans a1, a2.fr hf (hG m a7), a3, a4, fun j hj => ?_, a6, a7, a8⟩, h3, fun k hk => ⟨(h4 k hk).1, Nat.lt_of_lt_of_le (h4 k hk).2 hf.size⟩⟩
  have hR := Kd.R_tight2 rfl (a5 j hj)
  exact Kd.R_mono (Kd.R_kept hR (S := G) ⟨hf.size, fun i hi hn => hf.blk i hi hn⟩ (fun k hk => hG k (a8 j k hj hk.1.symm))) (fun _ _ => trivial)
theorem RI.step (h : RI N F W R T) (hb : Below W.heap.size W W') : RI N F W' R T := h.keep (Fr.of_below (F := fun _ => False) hb) (fun _ _ h => h)
theorem RI.len_le (h : RI N F W R T) (j : Int) : (psort (atS T j)).length ≤ T.length := by
  rw [psort_len]
  unfold atS
  rw [List.length_map]
  exact List.length_filter_le _ _
end
theorem PT.nil : PT [] := ⟨List.nodup_nil, fun l h => absurd h List.not_mem_nil, fun l h => absurd h List.not_mem_nil⟩
theorem rc_new (m : Nat) : rcells (fun _ => .slice none 0 0) m 0 = #[.slice none 0 0, .slice none 0 0, .slice none 0 0, .slice none 0 0, .slice none 0 0, .slice none 0 0, .slice none 0 0, .slice none 0 0, .slice none 0 0, .slice none 0 0, .slice none 0 0, .slice none 0 0, .slice none 0 0, .slice none 0 0, .slice none 0 0, .slice none 0 0, .slice none 0 0, .slice none 0 0, .slice none 0 0, .slice none 0 0, .slice none 0 0, .slice none 0 0, .slice none 0 0, .slice none 0 0, .slice none 0 0, .slice none 0 0, .slice none 0 0, .slice none 0 0, .slice none 0 0, .slice none 0 0, .slice none 0 0, .slice none 0 0, .slice none 0 0, .slice none 0 0, .slice none 0 0, .slice none 0 0, .slice none 0 0, .slice none 0 0, .slice none 0 0, .slice none 0 0, .slice none 0 0, .slice none 0 0, .slice none 0 0, .slice none 0 0, .slice none 0 0, .slice none 0 0, .slice none 0 0, .slice none 0 0, .slice none 0 0, .slice none 0 0, .slice none 0 0, .slice none 0 0, .slice none 0 0, .slice none 0 0, .slice none 0 0, .slice none 0 0, .slice none 0 0, .slice none 0 0, .slice none 0 0, .slice none 0 0, .slice none 0 0, .slice none 0 0, .slice none 0 0, .slice none 0 0, .map (some m), .int .u64 0] := rfl
theorem made_ring (W : World) : RI W.heap.size (fun k => k = W.heap.size ∨ k = W.heap.size + 1) ((W.alloc (.map #[] 0)).alloc (.cells (rcells (fun _ => .slice none 0 0) W.heap.size 0) 40)) (W.heap.size + 1) [] ∧ Below W.heap.size W ((W.alloc (.map #[] 0)).alloc (.cells (rcells (fun _ => .slice none 0 0) W.heap.size 0) 40)) := by
  have hs : (W.alloc (.map #[] 0)).heap.size = W.heap.size + 1 := by simp
  have hs2 : ((W.alloc (.map #[] 0)).alloc (.cells (rcells (fun _ => .slice none 0 0) W.heap.size 0) 40)).heap.size = W.heap.size + 2 := by simp
  have hb := below_alloc (Below.refl (W.alloc (.map #[] 0)).heap.size (W.alloc (.map #[] 0))) (.cells (rcells (fun _ => .slice none 0 0) W.heap.size 0) 40)
  refine ⟨⟨PT.nil, ⟨W.heap.size, 0, fun _ => .slice none 0 0, ?_, ?_, by unfold Mk.U; omega, fun j hj => ?_, fun j hj => ?_, fun i j b _ _ h => (by cases h), .inl rfl, fun j b _ h => (by cases h)⟩, .inr rfl, fun k hk => ?_⟩, below_alloc (below_alloc (Below.refl _ _) _) _⟩
  · rw [← hs]
    exact blk_new _ _
  · exact ((MI.made .i64 3 W).fr (F := fun _ => False) (Fr.of_below hb) (fun h => h)).congr (fun x => rfl)
  · unfold Mk.hs
    simp [atS]
  · rw [show psort (atS [] j) = [] from by simp [psort, atS]]
    exact Kd.R_nil _ _ _ _ _
  · rw [hs2]
    rcases hk with rfl | rfl <;> omega
set_option maxHeartbeats 4000000 in
set_option maxRecDepth 100000 in
theorem new_calls (W : World) : Calls Try.prog 4 #[] W fun e w' => ∃ R F, e = .returned (.pointer (some ⟨R, 0, none⟩)) ∧ RI W.heap.size F w' R [] ∧ Below W.heap.size W w' := by
  have hmm := @run_makeMap Try.prog
  have HH := Aside0.mk (made_ring W)
  have hz : ∀ w, (zeroValue 40).run Try.prog w = .ok (.agg #[.slice none 0 0, .slice none 0 0, .slice none 0 0, .slice none 0 0, .slice none 0 0, .slice none 0 0, .slice none 0 0, .slice none 0 0, .slice none 0 0, .slice none 0 0, .slice none 0 0, .slice none 0 0, .slice none 0 0, .slice none 0 0, .slice none 0 0, .slice none 0 0, .slice none 0 0, .slice none 0 0, .slice none 0 0, .slice none 0 0, .slice none 0 0, .slice none 0 0, .slice none 0 0, .slice none 0 0, .slice none 0 0, .slice none 0 0, .slice none 0 0, .slice none 0 0, .slice none 0 0, .slice none 0 0, .slice none 0 0, .slice none 0 0, .slice none 0 0, .slice none 0 0, .slice none 0 0, .slice none 0 0, .slice none 0 0, .slice none 0 0, .slice none 0 0, .slice none 0 0, .slice none 0 0, .slice none 0 0, .slice none 0 0, .slice none 0 0, .slice none 0 0, .slice none 0 0, .slice none 0 0, .slice none 0 0, .slice none 0 0, .slice none 0 0, .slice none 0 0, .slice none 0 0, .slice none 0 0, .slice none 0 0, .slice none 0 0, .slice none 0 0, .slice none 0 0, .slice none 0 0, .slice none 0 0, .slice none 0 0, .slice none 0 0, .slice none 0 0, .slice none 0 0, .slice none 0 0, .map none, .int .u64 0]) w := fun w => by kernel_rfl
  rw [rc_new] at HH
  go_enter Try.func4, Try.ntmps4
  go_wp2
  go_ret
  exact ⟨_, rfl, ⟨_, HH.out.1⟩, HH.out.2⟩
set_option maxHeartbeats 4000000 in
set_option maxRecDepth 100000 in
theorem is_calls (W : World) (B : Nat) (slot : Int) (r : Bool) (hr : decide (0 ≤ slot ∧ slot < 64) = r) : Calls Try.prog 12 #[.pointer (some ⟨B, 0, none⟩), .int .i64 slot] W fun e w' => e = .returned (.bool r) ∧ Below W.heap.size W w' := by
  by_cases h1 : 0 ≤ slot
  · by_cases h2 : slot < 64
    · obtain rfl : r = true := by rw [← hr]; simp [h1, h2]
      clear hr
      go_enter Try.func12, Try.ntmps12
      go_wp2
      go_ret
      exact ⟨rfl, Below.refl _ _⟩
    · obtain rfl : r = false := by rw [← hr]; simp [h2]
      clear hr
      go_enter Try.func12, Try.ntmps12
      go_wp2
      go_ret
      exact ⟨rfl, Below.refl _ _⟩
  · obtain rfl : r = false := by rw [← hr]; simp [h1]
    clear hr
    go_enter Try.func12, Try.ntmps12
    go_wp2
    go_ret
    exact ⟨rfl, Below.refl _ _⟩
theorem is_nil (W : World) (slot : Int) : Calls Try.prog 12 #[.pointer none, .int .i64 slot] W fun e w' => e = .returned (.bool false) ∧ Below W.heap.size W w' := by
  go_enter Try.func12, Try.ntmps12
  go_wp2
  go_ret
  exact ⟨rfl, Below.refl _ _⟩
section
variable {N : Nat} {F : Nat → Prop} {W W' : World} {R : Nat} {T : List S114}
set_option maxHeartbeats 4000000 in
set_option maxRecDepth 100000 in
theorem len_calls (h : RI N F W R T) : Calls Try.prog 6 #[.pointer (some ⟨R, 0, none⟩)] W fun e w' => e = .returned (.int .i64 T.length) ∧ Below W.heap.size W w' := by
  obtain ⟨h1, ⟨m, fu, vs, a1, a2, a3, a4, a5, a6, a7, a8⟩, h3, h4⟩ := h
  have c1 : W.cell? ⟨R, 64, none⟩ = some (.map (some m)) := (blk_cell a1 64).trans (rc_map _ _ _)
  have hlen := fun ty => a2.len ek3 ty
  clear a1 a2 a3 a4 a5 a6 a7 a8 h1 h4
  go_enter Try.func6, Try.ntmps6
  go_wp2
  go_ret
  exact ⟨rfl, Below.refl _ _⟩
theorem len_nil (W : World) : Calls Try.prog 6 #[.pointer none] W fun e w' => e = .returned (.int .i64 0) ∧ Below W.heap.size W w' := by
  go_enter Try.func6, Try.ntmps6
  go_wp2
  go_ret
  exact ⟨rfl, Below.refl _ _⟩
set_option maxHeartbeats 4000000 in
set_option maxRecDepth 100000 in
theorem mask_calls (h : RI N F W R T) : Calls Try.prog 8 #[.pointer (some ⟨R, 0, none⟩)] W fun e w' => ∃ fu, e = .returned (.int .u64 fu) ∧ Mk.U fu ∧ (∀ j : Nat, j < 64 → Mk.hs fu j = decide (atS T j ≠ [])) ∧ Below W.heap.size W w' := by
  obtain ⟨h1, ⟨m, fu, vs, a1, a2, a3, a4, a5, a6, a7, a8⟩, h3, h4⟩ := h
  have c1 : W.cell? ⟨R, 65, none⟩ = some (.int .u64 fu) := (blk_cell a1 65).trans (rc_full _ _ _)
  have HH := Aside0.mk (And.intro a3 a4)
  clear a1 a2 a3 a4 a5 a6 a7 a8 h1 h4
  go_enter Try.func8, Try.ntmps8
  go_wp2
  go_ret
  exact ⟨fu, rfl, HH.out.1, HH.out.2, Below.refl _ _⟩
theorem mask_nil (W : World) : Calls Try.prog 8 #[.pointer none] W fun e w' => e = .returned (.int .u64 0) ∧ Below W.heap.size W w' := by
  go_enter Try.func8, Try.ntmps8
  go_wp2
  go_ret
  exact ⟨rfl, Below.refl _ _⟩
set_option maxHeartbeats 4000000 in
set_option maxRecDepth 100000 in
theorem list_calls (h : RI N F W R T) (j : Nat) (hj : j < 64) (hl : T.length ≤ 1000000) : Calls Try.prog 10 #[.pointer (some ⟨R, 0, none⟩), .int .i64 j] W fun e w' => ∃ v, e = .returned v ∧ Kd.R k24 24 w' W.heap.size (fun _ => True) v (psort (atS T j)) ∧ Below W.heap.size W w' := by
  have hle := h.len_le (j : Int)
  obtain ⟨h1, ⟨m, fu, vs, a1, a2, a3, a4, a5, a6, a7, a8⟩, h3, h4⟩ := h
  have c1 : W.cell? ⟨R, j, none⟩ = some (vs j) := (blk_cell a1 j).trans (rc_at _ _ _ hj)
  obtain ⟨A, c, e0, hc, hC⟩ := Kd.R_reads (a5 j hj)
  rw [e0] at c1
  have HC := Aside0.mk hC
  have hj2 : (j : Int) < 64 := by omega
  have hj3 : (0 : Int) ≤ (j : Int) := by omega
  clear a1 a2 a3 a4 a5 a6 a7 a8 h1 h4 e0 hC hc
  go_enter Try.func10, Try.ntmps10
  go_wp2_with (first
    | (go_at_call 12; refine (is_calls _ R j true (by simp; omega)).mono ?_; rintro e w1 ⟨rfl, hb1⟩; have c2 := (hb1.cell (World.block_lt_of_cell? W _ c1)).trans c1)
    | (go_at_call 21; refine (clone_walk A c (psort (atS T j)) _ (Kd.C_below HC.out hb1) (by omega)).mono ?_; rintro e w2 ⟨v, rfl, hR, hb2⟩))
  go_ret
  exact ⟨_, rfl, Kd.R_lower hR hb1.size, below_step hb1 hb2⟩
theorem list_out (h : RI N F W R T) (slot : Int) (hj : ¬ (0 ≤ slot ∧ slot < 64)) : Calls Try.prog 10 #[.pointer (some ⟨R, 0, none⟩), .int .i64 slot] W fun e w' => e = .returned (.slice none 0 0) ∧ Below W.heap.size W w' := by
  go_enter Try.func10, Try.ntmps10
  go_wp2_with (go_at_call 12; refine (is_calls _ R slot false (by simpa using hj)).mono ?_; rintro e w1 ⟨rfl, hb1⟩)
  go_ret
  exact ⟨rfl, hb1⟩
theorem list_nil (W : World) (slot : Int) : Calls Try.prog 10 #[.pointer none, .int .i64 slot] W fun e w' => e = .returned (.slice none 0 0) ∧ Below W.heap.size W w' := by
  go_enter Try.func10, Try.ntmps10
  go_wp2_with (go_at_call 12; refine (is_nil _ slot).mono ?_; rintro e w1 ⟨rfl, hb1⟩)
  go_ret
  exact ⟨rfl, hb1⟩
end
end Go.Proofs.Ytedolmjealgeoaa.Rg
