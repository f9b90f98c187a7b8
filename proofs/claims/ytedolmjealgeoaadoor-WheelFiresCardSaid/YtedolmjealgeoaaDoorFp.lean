/- The plain law of WheelFires: which timers a wheel holds, what an advance tells of them, the row of marks. Conditions: those in each statement. -/
import Derived.Test.YtedolmjealgeoaaDoorLd
set_option linter.unusedVariables false
namespace Go.Proofs.YtedolmjealgeoaaDoor.Wh
open Go.RowKit Go.Maps Go.Proofs.YtedolmjealgeoaaDoor.PBase Go.Proofs.YtedolmjealgeoaaDoor.Cat Go.Proofs.YtedolmjealgeoaaDoor.Rg Go.Proofs.YtedolmjealgeoaaDoor.Tk Go.Proofs.YtedolmjealgeoaaDoorW.PrintWords Go.Proofs.YtedolmjealgeoaaDoorW.PrintLast Go.Proofs.YtedolmjealgeoaaDoorW.PrintMore
/-- V holds the timers i below n for which p says yes. -/
structure Sel (f : Nat → Int) (n : Nat) (p : Nat → Bool) (V : List S31) : Prop where
  nd : (ids V).Nodup
  mem : ∀ d, d ∈ V ↔ ∃ i : Nat, i < n ∧ p i = true ∧ d = ⟨i, f i⟩
theorem ldT_ndx (f : Nat → Int) : ∀ n, (ids (ldT f n)).Nodup
  | 0 => List.nodup_nil
  | n + 1 => List.nodup_cons.2 ⟨ldT_new f n, ldT_ndx f n⟩
section
variable {f : Nat → Int} {n : Nat} {p q : Nat → Bool} {V : List S31} {t : Int}
theorem Sel.ld : Sel f n (fun _ => true) (ldT f n) := ⟨ldT_ndx f n, fun d => by
  rw [ldT_mem]
  constructor
  · rintro ⟨i, h, e⟩; exact ⟨i, h, rfl, e⟩
  · rintro ⟨i, h, _, e⟩; exact ⟨i, h, e⟩⟩
theorem Sel.congr (s : Sel f n p V) (h : ∀ i, i < n → p i = q i) : Sel f n q V := ⟨s.nd, fun d => by
  rw [s.mem]
  constructor
  · rintro ⟨i, h1, h2, e⟩; exact ⟨i, h1, by rw [← h i h1]; exact h2, e⟩
  · rintro ⟨i, h1, h2, e⟩; exact ⟨i, h1, by rw [h i h1]; exact h2, e⟩⟩
theorem Sel.yes (s : Sel f n p V) {i : Nat} (hi : i < n) (h : p i = true) : tof V (i : Int) = some (f i) :=
  tof_mem (d := ⟨(i : Int), f i⟩) s.nd ((s.mem _).2 ⟨i, hi, h, rfl⟩)
theorem Sel.rm_ (s : Sel f n p V) (i : Nat) : Sel f n (fun j => p j && !(j == i)) (rm V (i : Int)) := ⟨nd_rm s.nd _, fun d => by
  have e : d ∈ rm V (i : Int) ↔ d ∈ V ∧ d.f0 ≠ (i : Int) := by
    show d ∈ V.filter _ ↔ _
    rw [List.mem_filter]
    simp
  rw [e, s.mem]
  constructor
  · rintro ⟨⟨j, h1, h2, rfl⟩, h3⟩
    refine ⟨j, h1, ?_, rfl⟩
    have h4 : (j : Int) ≠ (i : Int) := h3
    have h5 : j ≠ i := fun e => h4 (by omega)
    rw [h2]
    simpa using h5
  · rintro ⟨j, h1, h2, rfl⟩
    have h3 : p j = true ∧ ¬ j = i := by simpa using h2
    refine ⟨⟨j, h1, h3.1, rfl⟩, fun e => h3.2 ?_⟩
    have h4 : (j : Int) = (i : Int) := e
    omega⟩
theorem Sel.len (s : Sel f n p V) : V.length ≤ n := by
  have h : V.Perm ((ldT f n).filter (fun d => p d.f0.toNat)) := perm_of_mem s.nd ((ldT_ndx f n).sublist (List.filter_sublist.map _)) (fun d => by
    rw [s.mem, List.mem_filter, ldT_mem]
    constructor
    · rintro ⟨i, h1, h2, rfl⟩
      exact ⟨⟨i, h1, rfl⟩, by simpa using h2⟩
    · rintro ⟨⟨i, h1, rfl⟩, h2⟩
      exact ⟨i, h1, by simpa using h2, rfl⟩)
  rw [h.length_eq]
  exact Nat.le_trans (List.length_filter_le _ _) (Nat.le_of_eq (ldT_len f n))
theorem Sel.rest (s : Sel f n p V) (t : Int) : Sel f n (fun i => p i && !decide (f i ≤ t)) (restT V t) := ⟨(((psort_perm V).map _).nodup_iff.2 s.nd).sublist (List.filter_sublist.map _), fun d => by
  unfold restT
  rw [List.mem_filter, (psort_perm V).mem_iff, s.mem]
  constructor
  · rintro ⟨⟨i, h1, h2, rfl⟩, h3⟩
    exact ⟨i, h1, by rw [h2]; exact h3, rfl⟩
  · rintro ⟨i, h1, h2, rfl⟩
    have h3 := Bool.and_eq_true_iff.1 h2
    exact ⟨⟨i, h1, h3.1, rfl⟩, h3.2⟩⟩
theorem Sel.due (s : Sel f n p V) (t : Int) : Sel f n (fun i => p i && decide (f i ≤ t)) (dueT V t) := ⟨(((psort_perm V).map _).nodup_iff.2 s.nd).sublist (List.filter_sublist.map _), fun d => by
  unfold dueT
  rw [List.mem_filter, (psort_perm V).mem_iff, s.mem]
  constructor
  · rintro ⟨⟨i, h1, h2, rfl⟩, h3⟩
    exact ⟨i, h1, by rw [h2]; exact h3, rfl⟩
  · rintro ⟨i, h1, h2, rfl⟩
    have h3 := Bool.and_eq_true_iff.1 h2
    exact ⟨⟨i, h1, h3.1, rfl⟩, h3.2⟩⟩
theorem due_so (V : List S31) (t : Int) : So (dueT V t) := (psort_so V).sublist List.filter_sublist
theorem pair_at {E : List S31} (s : So E) (hn : (ids E).Nodup) {k : Nat} {a b : S31} (ha : E[k]? = some a) (hb : E[k + 1]? = some b) : a.f1 < b.f1 ∨ a.f1 = b.f1 ∧ a.f0 < b.f0 := by
  have h1 := List.pairwise_iff_getElem.1 s k (k + 1) (List.getElem?_eq_some_iff.1 ha).1 (List.getElem?_eq_some_iff.1 hb).1 (by omega)
  have h2 := List.pairwise_iff_getElem.1 (List.pairwise_map.1 hn) k (k + 1) (List.getElem?_eq_some_iff.1 ha).1 (List.getElem?_eq_some_iff.1 hb).1 (by omega)
  rw [(List.getElem?_eq_some_iff.1 ha).2, (List.getElem?_eq_some_iff.1 hb).2] at h1 h2
  rw [nb_iff] at h1
  omega
/-- The marks behind the first k of E. -/
def toldB (b : Nat → Bool) (E : List S31) (k : Nat) (i : Nat) : Bool := b i || (E.take k).any (fun d => d.f0 == (i : Int))
theorem toldB_zero (b : Nat → Bool) (E : List S31) : toldB b E 0 = b := by funext i; simp [toldB]
theorem toldB_succ {b : Nat → Bool} {E : List S31} {k j : Nat} {x : Int} (h : E[k]? = some ⟨(j : Int), x⟩) (i : Nat) : toldB b E (k + 1) i = if i = j then true else toldB b E k i := by
  unfold toldB
  rw [List.take_add_one, h, List.any_append]
  by_cases e : i = j
  · subst e; simp
  · rw [if_neg e]
    have : ¬ (j : Int) = (i : Int) := fun h => e (by omega)
    rw [show (Option.toList (some (⟨(j : Int), x⟩ : S31))).any (fun d => d.f0 == (i : Int)) = false from by simp [this], Bool.or_false]
theorem toldB_no {b : Nat → Bool} {E : List S31} {k j : Nat} {x : Int} (hn : (ids E).Nodup) (h : E[k]? = some ⟨(j : Int), x⟩) (hb : b j = false) : toldB b E k j = false := by
  unfold toldB
  rw [hb, Bool.false_or, List.any_eq_false]
  intro d hd e
  have e2 : d.f0 = (j : Int) := by simpa using e
  obtain ⟨m, hm, rfl⟩ := List.mem_iff_getElem.1 hd
  rw [List.length_take] at hm
  rw [List.getElem_take] at e2
  have h2 := List.pairwise_iff_getElem.1 (List.pairwise_map.1 hn) m k (by omega) (List.getElem?_eq_some_iff.1 h).1 (by omega)
  rw [(List.getElem?_eq_some_iff.1 h).2] at h2
  exact h2 e2
theorem toldB_all {b : Nat → Bool} {E : List S31} {n : Nat} {p : Nat → Bool} (s : Sel f n p E) {i : Nat} (hi : i < n) : toldB b E E.length i = (b i || p i) := by
  unfold toldB
  rw [List.take_length]
  congr 1
  cases hp : p i with
  | true =>
    rw [List.any_eq_true]
    exact ⟨_, (s.mem _).2 ⟨i, hi, hp, rfl⟩, by simp⟩
  | false =>
    rw [List.any_eq_false]
    intro d hd e
    have e2 : d.f0 = (i : Int) := by simpa using e
    obtain ⟨j, h1, h2, rfl⟩ := (s.mem d).1 hd
    have e3 : (j : Int) = (i : Int) := e2
    have e4 : j = i := by omega
    rw [e4, hp] at h2
    cases h2
/-- A row of marks in memory. -/
def tb (n : Nat) (b : Nat → Bool) : Array Value := ((List.range n).map (fun i => Value.bool (b i))).toArray
theorem tb_at {n : Nat} {b : Nat → Bool} {i : Nat} (h : i < n) : (tb n b)[i]? = some (.bool (b i)) := by simp [tb, h]
theorem tb_set {n : Nat} {b : Nat → Bool} {i : Nat} (h : i < n) (v : Bool) : (tb n b).setIfInBounds i (.bool v) = tb n (fun j => if j = i then v else b j) := by
  apply Array.ext
  · simp [tb]
  · intro j h1 h2
    have hj : j < n := by simpa [tb] using h2
    rw [Array.getElem_setIfInBounds]
    · simp only [tb, List.getElem_toArray, List.getElem_map, List.getElem_range]
      by_cases e : i = j
      · subst e; simp
      · rw [if_neg e, if_neg (fun h => e h.symm)]
    · simpa [tb] using h1
theorem tb_ext {n : Nat} {b c : Nat → Bool} (h : ∀ i, i < n → b i = c i) : tb n b = tb n c := by
  unfold tb
  congr 1
  apply List.map_congr_left
  intro i hi
  rw [h i (List.mem_range.1 hi)]
theorem tb_made (n : Nat) : madeCells (Value.bool false).cells n = tb n (fun _ => false) := by
  apply Array.ext
  · simp [madeCells, tb]
  · intro i h1 h2
    simp [madeCells, tb, Value.cells, Nat.mod_one]
theorem mk59 (n : Nat) (h : n ≤ 60) (W : World) : (Instr.makeSlice 59 (.int .i64 (n : Int)) (.int .i64 (n : Int))).run Tryd.prog W = .ok (.slice (some ⟨W.heap.size, 0, none⟩) n n) (W.alloc (.cells (tb n (fun _ => false)) 4)) := by
  obtain ⟨i0, hi, hzz⟩ := Option.map_eq_some_iff.1 (show (Tryd.prog.info? 4).map (fun i => (i.zero, i.size, i.bytes)) = some (some (.bool false), 1, 1) by kernel_rfl)
  simp only [Prod.mk.injEq] at hzz
  obtain ⟨hz0, hz1, hz2⟩ := hzz
  have := run_make (P := Tryd.prog) W 59 4 i0 _ (show Tryd.prog.underlying 59 = some (.slice 4) by kernel_rfl) hi hz0 .i64 .i64 n n (by omega) (by omega) (by rw [hz2]; omega) (by omega)
  rw [hz1, Int.toNat_natCast, Nat.mul_one, tb_made] at this
  exact this
end
end Go.Proofs.YtedolmjealgeoaaDoor.Wh
