/- PlanInserts: timers of unlike numbers, put in in whatever order, make the same sorted plan; taken out again nothing is left; then as a call. Conditions: the bounds that are given. -/
import Derived.Test.YtboneknainlodaaOps
import Derived.Test.YtboneknainlodaaPAllx10
import Derived.Test.YtboneknainlodaaOpenKd
import Derived.OpenShut
namespace Go.Proofs.Ytboneknainlodaa.Core
open Go.RowKit Go.Proofs.Ytboneknainlodaa.PBase Go.Proofs.Ytboneknainlodaa.PAll Go.Proofs.Ytboneknainlodaa.Giv Go.Proofs.YtboneknainlodaaW.PrintWords Go.Proofs.YtboneknainlodaaW.PrintLast
namespace Inserts
theorem wakes (k : Nat) : remontoirlaw07_wakes.f (k + 10) = some true := by
  induction k with
  | zero => exact wakes_10
  | succ k ih => exact remontoirlaw07_wakes.mono _ _ ih
theorem wakes' {k : Nat} (hk : 10 ≤ k) : remontoirlaw07_wakes.f k = some true := by
  have := wakes (k - 10)
  rwa [show k - 10 + 10 = k by omega] at this
theorem dues' (l : List S32) (hl : l.length ≤ 2000000) {k : Nat} (hk : l.length + 1 ≤ k) : PAll.remontoirkeep_Dues.f k l l = some true := by
  have := dues l hl (k - l.length - 1)
  rwa [show k - l.length - 1 + l.length + 1 = k by omega] at this
section
variable (x0 : List Int) (t : Nat)
/-- The j-th timer. -/
def el (j : Nat) : S32 := ⟨(j : Int), rd x0 (j : Int)⟩
/-- The first i. -/
def up (i : Nat) : List S32 := (List.range i).map (el x0)
/-- The first i in the other order. -/
def ro (i : Nat) : List S32 := (List.range i).map (fun j => el x0 ((j + t) % x0.length))
theorem up_succ (i : Nat) : up x0 (i + 1) = up x0 i ++ [el x0 i] := by unfold up; rw [List.range_succ, List.map_append]; rfl
theorem ro_succ (i : Nat) : ro x0 t (i + 1) = ro x0 t i ++ [el x0 ((i + t) % x0.length)] := by unfold ro; rw [List.range_succ, List.map_append]; rfl
theorem up_len (i : Nat) : (up x0 i).length = i := by simp [up]
theorem ro_len (i : Nat) : (ro x0 t i).length = i := by simp [ro]
theorem up_ids (i : Nat) : ids (up x0 i) = (List.range i).map (fun j : Nat => (j : Int)) := by unfold ids up; rw [List.map_map]; rfl
theorem ro_ids (i : Nat) : ids (ro x0 t i) = (List.range i).map (fun j : Nat => (((j + t) % x0.length : Nat) : Int)) := by unfold ids ro; rw [List.map_map]; rfl
theorem nodup_map {f : Nat → Int} {n : Nat} (h : ∀ a b, a < n → b < n → a < b → f a ≠ f b) : ((List.range n).map f).Nodup := by
  rw [List.nodup_iff_pairwise_ne, List.pairwise_map, List.pairwise_iff_getElem]
  intro i j hi hj hij
  simp only [List.getElem_range]
  rw [List.length_range] at hi hj
  exact h i j hi hj hij
theorem up_nodup (i : Nat) : (ids (up x0 i)).Nodup := by
  rw [up_ids]
  exact nodup_map (fun a b _ _ hab => by show (a : Int) ≠ (b : Int); omega)
theorem mod_ne {n t a b : Nat} (hb : b < n) (hab : a < b) : (a + t) % n ≠ (b + t) % n := by
  intro h
  have h1 := Nat.div_add_mod (a + t) n
  have h2 := Nat.div_add_mod (b + t) n
  have h3 : (a + t) / n ≤ (b + t) / n := Nat.div_le_div_right (by omega)
  have h4 : (b + t) / n ≤ (a + t) / n := by
    rcases Nat.lt_or_ge ((a + t) / n) ((b + t) / n) with h5 | h5
    · have : n * ((a + t) / n + 1) ≤ n * ((b + t) / n) := Nat.mul_le_mul_left _ h5
      rw [Nat.mul_add, Nat.mul_one] at this
      omega
    · exact h5
  have h6 : (a + t) / n = (b + t) / n := by omega
  rw [h6] at h1
  omega
theorem ro_nodup (i : Nat) (hi : i ≤ x0.length) : (ids (ro x0 t i)).Nodup := by
  rw [ro_ids]
  exact nodup_map (fun a b ha hb hab => by show (((a + t) % x0.length : Nat) : Int) ≠ (((b + t) % x0.length : Nat) : Int); have := mod_ne (t := t) (n := x0.length) (by omega) hab; omega)
theorem up_fresh (i : Nat) : ¬ (i : Int) ∈ ids (up x0 i) := by
  rw [up_ids, List.mem_map]
  rintro ⟨j, hj, e⟩
  rw [List.mem_range] at hj
  omega
theorem ro_fresh (i : Nat) (hi : i < x0.length) : ¬ (((i + t) % x0.length : Nat) : Int) ∈ ids (ro x0 t i) := by
  rw [ro_ids, List.mem_map]
  rintro ⟨j, hj, e⟩
  rw [List.mem_range] at hj
  exact mod_ne (t := t) hi hj (by omega)
theorem wf_small {n : Int} (h0 : 0 ≤ n) (h1 : n ≤ 100) : (Lit.int .i64 n).wf = true := by
  unfold Lit.wf
  simp [IntKind.min, IntKind.max, IntKind.bits, IntKind.signed]
  omega
theorem ok_el {j : Nat} (h : j < 100) : (Lit.int .i64 (el x0 j).f0).wf = true := by
  have e : (el x0 j).f0 = (j : Int) := rfl
  rw [e]
  exact wf_small (by omega) (by omega)
theorem up_ok (i : Nat) (hi : i ≤ 100) : Ok (up x0 i) := by
  intro d hd
  obtain ⟨j, hj, rfl⟩ := List.mem_map.1 hd
  rw [List.mem_range] at hj
  exact ok_el x0 (by omega)
theorem ro_ok (i : Nat) (h : x0.length ≤ 40) (hi : i ≤ x0.length) : Ok (ro x0 t i) := by
  intro d hd
  obtain ⟨j, hj, rfl⟩ := List.mem_map.1 hd
  rw [List.mem_range] at hj
  exact ok_el x0 (by have := Nat.mod_lt (j + t) (show 0 < x0.length by omega); omega)
theorem rot (n : Nat) : ((List.range n).map (fun j => (j + t) % n)).Perm (List.range n) := by
  rcases Nat.eq_zero_or_pos n with h0 | h0
  · subst h0; simp
  · have hr : t % n < n := Nat.mod_lt _ h0
    have e : (List.range n).map (fun j => (j + t) % n) = (List.range n).drop (t % n) ++ (List.range n).take (t % n) := by
      apply List.ext_getElem
      · simp; omega
      · intro j h1 h2
        simp only [List.length_map, List.length_range] at h1
        rw [List.getElem_map, List.getElem_range, ← Nat.add_mod_mod]
        rcases Nat.lt_or_ge j (n - t % n) with hj | hj
        · rw [List.getElem_append_left (by simp; omega), List.getElem_drop, List.getElem_range, Nat.mod_eq_of_lt (by omega)]
          omega
        · rw [List.getElem_append_right (by simp; omega), List.getElem_take, List.getElem_range, List.length_drop, List.length_range]
          rw [show j + t % n = (j - (n - t % n)) + n by omega, Nat.add_mod_right, Nat.mod_eq_of_lt (by omega)]
    rw [e]
    refine List.perm_append_comm.trans ?_
    rw [List.take_append_drop]
theorem up_ro : (ro x0 t x0.length).Perm (up x0 x0.length) := by
  have h := (rot t x0.length).map (el x0)
  rw [List.map_map] at h
  exact h
end
theorem gd_up (x0 : List Int) (i : Nat) : Gd (psort (up x0 i)) := gd_psort _ (up_nodup x0 i)
/-- The timers from i on. -/
def dn (x0 : List Int) (i : Nat) : List S32 := (up x0 x0.length).filter (fun y => !decide (y.f0 < (i : Int)))
theorem dn_zero (x0 : List Int) : dn x0 0 = up x0 x0.length := by
  unfold dn
  rw [List.filter_eq_self]
  intro d hd
  obtain ⟨j, _, rfl⟩ := List.mem_map.1 hd
  have : ¬ ((el x0 j).f0 < ((0 : Nat) : Int)) := by show ¬ ((j : Int) < _); omega
  rw [decide_eq_false this]; rfl
theorem dn_succ (x0 : List Int) (i : Nat) : rm (dn x0 i) i = dn x0 (i + 1) := by
  unfold rm dn
  rw [List.filter_filter]
  apply List.filter_congr
  intro d _
  by_cases h1 : d.f0 < (i : Int)
  · have : d.f0 < ((i + 1 : Nat) : Int) := by omega
    rw [decide_eq_true h1, decide_eq_true this]
    exact Bool.and_false _
  · rw [decide_eq_false h1]
    by_cases h2 : d.f0 = (i : Int)
    · have : d.f0 < ((i + 1 : Nat) : Int) := by omega
      rw [decide_eq_true this, h2]
      simp
    · have : ¬ d.f0 < ((i + 1 : Nat) : Int) := by omega
      rw [decide_eq_false this, beq_eq_false_iff_ne.2 h2]
      rfl
theorem dn_mem (x0 : List Int) (i : Nat) (hi : i < x0.length) : (i : Int) ∈ ids (dn x0 i) := by
  unfold ids dn
  rw [List.mem_map]
  refine ⟨el x0 i, ?_, rfl⟩
  rw [List.mem_filter]
  refine ⟨List.mem_map.2 ⟨i, List.mem_range.2 hi, rfl⟩, ?_⟩
  have : ¬ ((el x0 i).f0 < (i : Int)) := by show ¬ ((i : Int) < _); omega
  rw [decide_eq_false this]; rfl
theorem dn_nodup (x0 : List Int) (i : Nat) : (ids (dn x0 i)).Nodup := (up_nodup x0 x0.length).sublist ((List.filter_sublist).map _)
theorem dn_ok (x0 : List Int) (i : Nat) (h : x0.length ≤ 40) : Ok (dn x0 i) := fun d hd => up_ok x0 x0.length (by omega) d (List.mem_filter.1 hd).1
theorem dn_len (x0 : List Int) : ∀ i, i ≤ x0.length → (dn x0 i).length = x0.length - i := by
  intro i
  induction i with
  | zero => intro _; rw [dn_zero, up_len]; rfl
  | succ i ih =>
    intro hi
    have h := ih (by omega)
    have h2 := cancel_in (dn_nodup x0 i) (dn_mem x0 i (by omega))
    rw [← dn_succ, ← h2.2]
    have h3 := idx_range (dn x0 i) (i : Int)
    unfold canf
    rw [List.length_append, List.length_take, List.length_drop]
    omega
theorem w64 {n : Int} (h0 : 0 ≤ n) (h1 : n ≤ 10000) : wrap64 n = n := by unfold wrap64; omega
theorem cut (k : Nat) (x0 : List Int) (hx : x0.length ≤ 40) : ∀ (d i : Nat), x0.length - i = d → i ≤ x0.length → remontoirlaw07_PlanInserts.l1 (k + d + 20) x0 (psort (dn x0 i)) (i : Int) = some true := by
  intro d
  induction d with
  | zero =>
    intro i hd hi
    have hl := dn_len x0 i hi
    have h0 : dn x0 i = [] := List.eq_nil_of_length_eq_zero (by omega)
    have e : (psort (dn x0 i)).length = 0 := by rw [psort_len, h0]; rfl
    rw [show k + 0 + 20 = (k + 19) + 1 by omega, remontoirlaw07_PlanInserts.l1, if_neg (by omega), if_pos (by omega), wakes' (by omega)]
    rfl
  | succ d ih =>
    intro i hd hi
    have hl := dn_len x0 i hi
    have hl' := dn_len x0 (i + 1) (by omega)
    have hm := dn_mem x0 i (by omega)
    have hg := gd_psort _ (dn_nodup x0 i)
    have hg' := gd_psort _ (dn_nodup x0 (i + 1))
    have ho := psort_ok (dn_ok x0 i hx)
    have ho' := psort_ok (dn_ok x0 (i + 1) hx)
    have n1 := psort_len (dn x0 i)
    have n2 := psort_len (dn x0 (i + 1))
    have c1 := can_yes ho (by omega) hg ((psort_ids _ _).2 hm)
    rw [rm_psort, dn_succ] at c1
    have c2 := ins_no (a := 0) ho (by omega) (.inr ((psort_ids _ _).2 hm))
    have c3 := good_true _ ho' (by omega) hg'
    have ih' := ih (i + 1) (by omega) (by omega)
    have w : wrap64 (wrap64 ((x0.length : Int) - (i : Int)) - 1) = ((psort (dn x0 (i + 1))).length : Int) := by rw [n2, hl', w64 (n := (x0.length : Int) - i) (by omega) (by omega), w64 (by omega) (by omega)]; omega
    have w2 : wrap64 ((i : Int) + 1) = ((i + 1 : Nat) : Int) := w64 (n := (i : Int) + 1) (by omega) (by omega)
    generalize psort (dn x0 (i + 1)) = N at *
    generalize psort (dn x0 i) = M at *
    rw [show k + (d + 1) + 20 = (k + d + 20) + 1 by omega, remontoirlaw07_PlanInserts.l1, if_pos (by omega), c1, Option.bind_some, c2, Option.bind_some, if_pos rfl, if_neg (by decide), c3, Option.bind_some, if_pos rfl, if_pos w.symm, w2]
    exact ih'
theorem lt_big {n : Nat} (h : n ≤ 40) : n < 8796093022208 := by omega
theorem tm (a n : Nat) : Int.tmod (a : Int) (n : Int) = ((a % n : Nat) : Int) := by
  first | exact (Int.ofNat_tmod a n).symm | exact (Int.natCast_tmod a n).symm | (rw [Int.tmod_eq_emod_of_nonneg (by omega)]; first | exact (Int.natCast_emod a n).symm | exact (Int.natCast_mod a n).symm | exact (Int.ofNat_emod a n).symm | rfl)
theorem perm_end (d : S32) (l : List S32) : (d :: psort l).Perm (l ++ [d]) := ((psort_perm l).cons d).trans (by simpa using (List.perm_middle (a := d) (l₁ := l) (l₂ := [])).symm)
theorem psort_len40 {l : List S32} {n : Nat} (h : l.length = n) (hn : n ≤ 40) : (psort l).length ≤ 1000000 := by rw [psort_len, h]; omega
theorem ins_up (x0 : List Int) (i : Nat) (hi : i ≤ 40) : plan_Insert.f (psort (up x0 i)) (i : Int) (rd x0 (i : Int)) = some (psort (up x0 (i + 1)), true) := by
  have h := ins_yes (a := rd x0 (i : Int)) (psort_ok (up_ok x0 i (by omega))) (psort_len40 (up_len x0 i) hi) (gd_up x0 i) (fun h => up_fresh x0 i ((psort_ids _ _).1 h))
  have e : psort (el x0 i :: psort (up x0 i)) = psort (up x0 (i + 1)) := by
    rw [up_succ]
    exact psort_congr (perm_end _ _)
  rw [← e]
  exact h
theorem ins_ro (x0 : List Int) (t i : Nat) (hx : x0.length ≤ 40) (hi : i < x0.length) : plan_Insert.f (psort (ro x0 t i)) (((i + t) % x0.length : Nat) : Int) (rd x0 (((i + t) % x0.length : Nat) : Int)) = some (psort (ro x0 t (i + 1)), true) := by
  have h := ins_yes (a := rd x0 (((i + t) % x0.length : Nat) : Int)) (psort_ok (ro_ok x0 t i hx (Nat.le_of_lt hi))) (psort_len40 (ro_len x0 t i) (by omega)) (gd_psort _ (ro_nodup x0 t i (Nat.le_of_lt hi))) (fun h => ro_fresh x0 t i hi ((psort_ids _ _).1 h))
  have e : psort (el x0 ((i + t) % x0.length) :: psort (ro x0 t i)) = psort (ro x0 t (i + 1)) := by
    rw [ro_succ]
    exact psort_congr (perm_end _ _)
  rw [← e]
  exact h
theorem put_step (k' : Nat) (x0 : List Int) (t i : Nat) (K N : Int) (M R M1 R1 U : List S32) (hlt : (i : Int) < (x0.length : Int)) (h0 : ¬ ((x0.length : Int) = 0)) (hi0 : (0 : Int) ≤ (i : Int)) (hK : Int.tmod (wrap64 ((i : Int) + wrap64 (t : Int))) (x0.length : Int) = K) (hK0 : 0 ≤ K) (hK1 : K < (x0.length : Int))
    (c1 : plan_Insert.f M (i : Int) (rd x0 (i : Int)) = some (M1, true)) (c2 : plan_Insert.f R K (rd x0 K) = some (R1, true)) (c3 : plan_Good.f M1 = some true) (hN : wrap64 ((i : Int) + 1) = N) (hl : (M1.length : Int) = N) (hU : U.length < 8796093022208) (ih : remontoirlaw07_PlanInserts.l0 k' x0 (t : Int) M1 R1 (U ++ [⟨(i : Int), rd x0 (i : Int)⟩]) N = some true) :
    remontoirlaw07_PlanInserts.l0 (k' + 1) x0 (t : Int) M R U (i : Int) = some true := by
  rw [remontoirlaw07_PlanInserts.l0, if_pos hlt, if_neg h0, if_pos hi0, c1, Option.bind_some, hK, if_pos hK0, if_pos hK1, c2, Option.bind_some, if_pos rfl, if_pos rfl, c3, Option.bind_some, if_pos rfl, hN, if_pos hl, if_pos hU]
  exact ih
theorem turned (i t n : Nat) (hi : i ≤ 40) (ht : t ≤ 255) : Int.tmod (wrap64 ((i : Int) + wrap64 (t : Int))) (n : Int) = (((i + t) % n : Nat) : Int) := by
  rw [w64 (n := (t : Int)) (by omega) (by omega), w64 (n := (i : Int) + (t : Int)) (by omega) (by omega), ← tm]
  rfl
theorem last (k : Nat) (x0 : List Int) (t : Nat) (hx : x0.length ≤ 40) : remontoirlaw07_PlanInserts.l0 (k + 120) x0 (t : Int) (psort (up x0 x0.length)) (psort (ro x0 t x0.length)) (up x0 x0.length) (x0.length : Int) = some true := by
  have e1 : psort (ro x0 t x0.length) = psort (up x0 x0.length) := psort_congr (up_ro x0 t)
  have n1 := psort_len (up x0 x0.length)
  have n2 := up_len x0 x0.length
  have c := cut (k + 98 - x0.length) x0 hx x0.length 0 (by omega) (by omega)
  rw [dn_zero, show k + 98 - x0.length + x0.length + 20 = k + 118 by omega] at c
  have s := sort_yes (l := up x0 x0.length) (by omega)
  have d1 := dues' (psort (up x0 x0.length)) (by omega) (show (psort (up x0 x0.length)).length + 1 ≤ k + 119 by omega)
  rw [show k + 120 = (k + 119) + 1 by omega, remontoirlaw07_PlanInserts.l0, if_neg (by omega), e1, d1, Option.bind_some, if_pos rfl, s, Option.bind_some, d1, Option.bind_some, show k + 119 = (k + 118) + 1 by omega, remontoirlaw07_PlanInserts.j1, if_neg (by decide)]
  exact c
theorem put (k : Nat) (x0 : List Int) (t : Nat) (hx : x0.length ≤ 40) (ht : t ≤ 255) : ∀ (d i : Nat), x0.length - i = d → i ≤ x0.length → remontoirlaw07_PlanInserts.l0 (k + d + 120) x0 (t : Int) (psort (up x0 i)) (psort (ro x0 t i)) (up x0 i) (i : Int) = some true := by
  intro d
  induction d with
  | zero =>
    intro i hd hi
    have hin : i = x0.length := by omega
    subst hin
    exact last k x0 t hx
  | succ d ih =>
    intro i hd hi
    have hlt : i < x0.length := by omega
    have q3 := Nat.mod_lt (i + t) (show 0 < x0.length by omega)
    have ih' := ih (i + 1) (by omega) (by omega)
    have e : up x0 (i + 1) = up x0 i ++ [⟨(i : Int), rd x0 (i : Int)⟩] := up_succ x0 i
    have ih2 : remontoirlaw07_PlanInserts.l0 (k + d + 120) x0 (t : Int) (psort (up x0 (i + 1))) (psort (ro x0 t (i + 1))) (up x0 i ++ [⟨(i : Int), rd x0 (i : Int)⟩]) ((i + 1 : Nat) : Int) = some true := by rw [← e]; exact ih'
    rw [show k + (d + 1) + 120 = (k + d + 120) + 1 by omega]
    exact put_step (k + d + 120) x0 t i (((i + t) % x0.length : Nat) : Int) ((i + 1 : Nat) : Int) _ _ _ _ _ (by omega) (by omega) (by omega) (turned i t x0.length (by omega) ht) (by omega) (by omega) (ins_up x0 i (by omega)) (ins_ro x0 t i hx hlt)
      (good_true _ (psort_ok (up_ok x0 (i + 1) (by omega))) (by rw [psort_len, up_len]; omega) (gd_up x0 (i + 1))) (w64 (n := (i : Int) + 1) (by omega) (by omega)) (by rw [psort_len, up_len]) (lt_big (by rw [up_len]; omega)) ih2
theorem told (l : List Int) (t : Int) (h0 : 0 ≤ t) (h1 : t ≤ 255) : remontoirlaw07_PlanInserts.f 200 l t = some true := by
  unfold remontoirlaw07_PlanInserts.f
  by_cases h : (l.length : Int) > 40
  · rw [if_pos h, wakes' (by omega)]; rfl
  · rw [if_neg h]
    obtain ⟨n, rfl⟩ := Int.eq_ofNat_of_zero_le h0
    have e : psort [] = [] := by simp [psort]
    have := put (80 - l.length) l n (by omega) (by omega) l.length 0 (by omega) (Nat.zero_le _)
    rw [show 80 - l.length + l.length + 120 = 200 by omega] at this
    have u0 : up l 0 = [] := rfl
    have r0 : ro l n 0 = [] := rfl
    rw [u0, r0, e] at this
    exact this
end Inserts
end Go.Proofs.Ytboneknainlodaa.Core
namespace Go.Proofs.Ytboneknainlodaa.CallPlanInserts
open Go.RowKit Go.Proofs.Ytboneknainlodaa.PBase Go.Proofs.Ytboneknainlodaa.PAll Go.Proofs.Ytboneknainlodaa.Core Go.Proofs.Ytboneknainlodaa.Open Go.Proofs.YtboneknainlodaaW.PrintWords Go.Proofs.YtboneknainlodaaW.PrintLast
set_option linter.unusedVariables false
theorem calls (W : World) (a0 : Option Addr) (c0 : Nat) (l0 : List (List Int)) (r0 : RowsOf W [.u64] a0 l0) (x0 : l0.length ≤ c0) (m0 : c0 ≤ maxLen) (y0 : l0.length * 8 ≤ 140737488351232) (a1 : Int) (w1 : (Lit.int .u8 a1).wf = true) :
    Calls Try.prog 6 #[.slice a0 l0.length c0, .int .u8 a1] W fun e w' => e = .returned (.bool true) ∧ Below W.heap.size W w' := by
  have hb := Go.bounds_u8 w1
  have h := remontoirlaw07_PlanInserts.calls 200 a0 c0 (firsts l0) a1 true W (kd_ints r0 (by omega)) (by rw [firsts_length]; exact x0) (Inserts.told _ a1 hb.1 (by have := hb.2; omega)) (Nat.zero_le _)
  rw [firsts_length] at h
  exact h
end Go.Proofs.Ytboneknainlodaa.CallPlanInserts
