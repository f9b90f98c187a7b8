/- WheelPlaces, plain: who is there, on which level, the last one of each level. Conditions: the timers of a wheel. -/
import Derived.Test.YtedolmjealgeoaaDoorLd
import Derived.Laws.FloatArith
set_option linter.unusedVariables false
namespace Go.Proofs.YtedolmjealgeoaaDoor.Wh
open Go.RowKit Go.Maps Go.Proofs.YtedolmjealgeoaaDoor.PBase Go.Proofs.YtedolmjealgeoaaDoor.Cat Go.Proofs.YtedolmjealgeoaaDoor.Rg Go.Proofs.YtedolmjealgeoaaDoor.Tk Go.Proofs.YtedolmjealgeoaaDoorW.PrintWords Go.Proofs.YtedolmjealgeoaaDoorW.PrintLast Go.Proofs.YtedolmjealgeoaaDoorW.PrintMore
theorem fl_int : ∀ s : Nat, s < 64 → floatToIntVal .f64 (fl (s : Int)) .i64 = some (s : Int) := by decide +kernel
theorem fl_six : fl 6 = 4618441417868443648 := by decide +kernel
/-- How many are there, of the first i. -/
def pn (pr : Nat → Bool) (i : Nat) : Nat := ((List.range i).filter pr).length
/-- How many of these are on level k. -/
def ln (pr : Nat → Bool) (le : Nat → Nat) (i k : Nat) : Nat := ((List.range i).filter (fun j => pr j && le j == k)).length
/-- The last one of level k. -/
def mx (pr : Nat → Bool) (le : Nat → Nat) (f : Nat → Int) (k : Nat) : Nat → Int
  | 0 => 0
  | i + 1 => if pr i && le i == k then (if mx pr le f k i < f i then f i else mx pr le f k i) else mx pr le f k i
section
variable {pr : Nat → Bool} {le : Nat → Nat} {f : Nat → Int}
theorem filt_succ (p : Nat → Bool) (i : Nat) : ((List.range (i + 1)).filter p).length = ((List.range i).filter p).length + if p i then 1 else 0 := by
  rw [List.range_succ, List.filter_append, List.length_append]
  congr 1
  cases h : p i <;> simp [h]
theorem pn_yes {i : Nat} (h : pr i = true) : pn pr (i + 1) = pn pr i + 1 := by unfold pn; rw [filt_succ, h]; rfl
theorem pn_no {i : Nat} (h : pr i = false) : pn pr (i + 1) = pn pr i := by unfold pn; rw [filt_succ, h]; rfl
theorem ln_yes {i : Nat} (h : pr i = true) (k : Nat) : ln pr le (i + 1) k = if k = le i then ln pr le i k + 1 else ln pr le i k := by
  unfold ln
  rw [filt_succ, h]
  by_cases e : k = le i
  · rw [if_pos e, e]
    simp
  · rw [if_neg e]
    have : ¬ le i = k := fun e2 => e e2.symm
    simp [this]
theorem ln_no {i : Nat} (h : pr i = false) (k : Nat) : ln pr le (i + 1) k = ln pr le i k := by unfold ln; rw [filt_succ, h]; simp
theorem mx_yes {i : Nat} (h : pr i = true) (k : Nat) : mx pr le f k (i + 1) = if k = le i then (if mx pr le f k i < f i then f i else mx pr le f k i) else mx pr le f k i := by
  rw [mx, h]
  by_cases e : k = le i
  · rw [if_pos e, e]
    simp
  · rw [if_neg e]
    have : ¬ le i = k := fun e2 => e e2.symm
    simp [this]
theorem mx_no {i : Nat} (h : pr i = false) (k : Nat) : mx pr le f k (i + 1) = mx pr le f k i := by
  rw [mx, h]
  simp
theorem mx_lt {k : Nat} {b : Int} (hb : 0 < b) : ∀ i, (∀ j, j < i → pr j = true → le j = k → f j < b) → mx pr le f k i < b
  | 0, _ => hb
  | i + 1, h => by
    have ih := mx_lt hb i (fun j hj => h j (by omega))
    unfold mx
    split
    · rename_i hc
      have hc2 := Bool.and_eq_true_iff.1 hc
      have := h i (by omega) hc2.1 (by simpa using hc2.2)
      split
      · exact this
      · exact ih
    · exact ih
theorem mx_u {k : Nat} (hf : ∀ i, pr i = true → U (f i)) : ∀ i, U (mx pr le f k i)
  | 0 => ⟨Int.le_refl 0, by show (0 : Int) < _; decide⟩
  | i + 1 => by
    unfold mx
    split
    · rename_i hc
      split
      · exact hf i (Bool.and_eq_true_iff.1 hc).1
      · exact mx_u hf i
    · exact mx_u hf i
theorem ln_pos {i k : Nat} (h : 0 < ln pr le i k) : ∃ j, j < i ∧ pr j = true ∧ le j = k := by
  obtain ⟨j, hj⟩ := List.exists_mem_of_length_pos h
  have h2 := List.mem_filter.1 hj
  have h3 := Bool.and_eq_true_iff.1 h2.2
  exact ⟨j, by simpa using h2.1, h3.1, by simpa using h3.2⟩
theorem pn_le (i : Nat) : pn pr i ≤ i := by
  have := List.length_filter_le pr (List.range i)
  rw [List.length_range] at this
  exact this
theorem ln_le (i k : Nat) : ln pr le i k ≤ i := by
  have := List.length_filter_le (fun j => pr j && le j == k) (List.range i)
  rw [List.length_range] at this
  exact this
end
/-- A part of the timers 0, 1, .. -/
structure Part (f : Nat → Int) (n : Nat) (V : List S31) : Prop where
  nd : (ids V).Nodup
  sub : ∀ d ∈ V, d ∈ ldT f n
def tmr (f : Nat → Int) (i : Nat) : S31 := ⟨(i : Int), f i⟩
/-- Who is there. -/
def prs (V : List S31) (i : Nat) : Bool := (tof V (i : Int)).isSome
/-- On which level; 6: beyond. -/
def lev (f : Nat → Int) (ck : Int) (i : Nat) : Nat := if lv (f i) ck < 6 then lv (f i) ck else 6
section
variable {f : Nat → Int} {n : Nat} {V : List S31} {ck : Int}
theorem Part.at_ (p : Part f n V) {i : Nat} (h : prs V i = true) : tof V (i : Int) = some (f i) ∧ (⟨i, f i⟩ : S31) ∈ V := by
  obtain ⟨y, hy⟩ := Option.isSome_iff_exists.1 h
  have h1 := tof_get hy
  obtain ⟨j, hj, e⟩ := ldT_mem.1 (p.sub _ h1)
  have e1 : (i : Int) = (j : Int) := congrArg S31.f0 e
  have e2 : y = f j := congrArg S31.f1 e
  have e3 : i = j := by omega
  subst e3
  rw [e2] at hy h1
  exact ⟨hy, h1⟩
theorem Part.no {i : Nat} (h : prs V i = false) : tof V (i : Int) = none := by
  unfold prs at h
  cases hc : tof V (i : Int) with
  | none => rfl
  | some y => rw [hc] at h; cases h
theorem Part.rows (p : Part f n V) : V.Perm (((List.range n).filter (prs V)).map (tmr f)) := by
  refine perm_of_mem p.nd ?_ (fun d => ⟨fun hd => ?_, fun hd => ?_⟩)
  · unfold ids
    rw [List.map_map]
    have h1 : ((List.range n).filter (prs V)).Nodup := List.nodup_range.sublist List.filter_sublist
    rw [List.Nodup, List.pairwise_map]
    exact h1.imp (fun {a b} hne e => hne (by have e2 : ((a : Nat) : Int) = ((b : Nat) : Int) := e; omega))
  · obtain ⟨j, hj, rfl⟩ := ldT_mem.1 (p.sub d hd)
    refine List.mem_map.2 ⟨j, List.mem_filter.2 ⟨by simpa using hj, ?_⟩, rfl⟩
    unfold prs
    have := tof_mem p.nd hd
    rw [show tof V (j : Int) = some (f j) from this]
    rfl
  · obtain ⟨j, hj, rfl⟩ := List.mem_map.1 hd
    exact (p.at_ (List.mem_filter.1 hj).2).2
theorem Part.len (p : Part f n V) : V.length = pn (prs V) n := by
  rw [p.rows.length_eq, List.length_map]
  rfl
theorem Part.load (p : Part f n V) (k : Nat) (hk : k < 7) : loadF ck V k = (ln (prs V) (lev f ck) n k : Int) := by
  have key : ∀ q : Int → Bool, (V.filter (fun d => q d.f1)).length = ((List.range n).filter (fun j => prs V j && q (f j))).length := fun q => by
    rw [(p.rows.filter _).length_eq, List.filter_map, List.length_map, List.filter_filter]
    congr 1
    apply List.filter_congr
    intro j _
    rw [Bool.and_comm]
    rfl
  unfold loadF ln
  by_cases h : k < 6
  · rw [if_pos h]
    unfold rgT
    rw [List.length_map, key (fun a => lv a ck == k)]
    congr 2
    apply List.filter_congr
    intro j _
    congr 1
    unfold lev
    split
    · rfl
    · have h1 : ¬ lv (f j) ck = k := by omega
      have h2 : ¬ 6 = k := by omega
      rw [show (lv (f j) ck == k) = false from beq_eq_false_iff_ne.mpr h1, show ((6 : Nat) == k) = false from beq_eq_false_iff_ne.mpr h2]
  · rw [if_neg h]
    have hk6 : k = 6 := by omega
    subst hk6
    unfold farT
    rw [key (fun a => decide (6 ≤ lv a ck))]
    congr 2
    apply List.filter_congr
    intro j _
    congr 1
    unfold lev
    split
    · have h1 : ¬ 6 ≤ lv (f j) ck := by omega
      have h2 : ¬ lv (f j) ck = 6 := by omega
      simp [h1, h2]
    · have h1 : 6 ≤ lv (f j) ck := by omega
      simp [h1]
/-- A lower level comes first. -/
theorem Part.lower (p : Part f n V) (tt : TT ck V) {i j : Nat} (hi : prs V i = true) (hj : prs V j = true) (h : lev f ck j < lev f ck i) : f j < f i := by
  have h1 := (p.at_ hi).2
  have h2 := (p.at_ hj).2
  refine lv_lt (tt.u _ h2) (tt.u _ h1) tt.un (tt.ge _ h1) ?_
  show lv (f j) ck < lv (f i) ck
  unfold lev at h
  split at h <;> split at h <;> omega
theorem Part.most (p : Part f n V) (tt : TT ck V) {i k : Nat} (hi : prs V i = true) (hk : k < lev f ck i) (h0 : 0 < ln (prs V) (lev f ck) n k) : mx (prs V) (lev f ck) f k n < f i := by
  obtain ⟨j, hj, h1, h2⟩ := ln_pos h0
  have h3 := p.lower tt hi h1 (by omega)
  have h4 := (tt.u _ (p.at_ h1).2).1
  exact mx_lt (by have h5 : 0 ≤ f j := h4; omega) n (fun j' _ h5 h6 => p.lower tt hi h5 (by omega))
end
end Go.Proofs.YtedolmjealgeoaaDoor.Wh
