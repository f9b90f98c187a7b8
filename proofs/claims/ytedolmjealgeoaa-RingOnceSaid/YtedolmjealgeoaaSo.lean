/- Sorted lists of timers, plain. Conditions: none of the program. -/
import Derived.Test.YtedolmjealgeoaaBs
import Derived.Lib.SlBy
namespace Go.Proofs.Ytedolmjealgeoaa.Rg
open Go.RowKit Go.Maps Go.Proofs.Ytedolmjealgeoaa.PBase Go.Proofs.Ytedolmjealgeoaa.Cat Go.Proofs.YtedolmjealgeoaaW.PrintWords Go.Proofs.YtedolmjealgeoaaW.PrintLast Go.Proofs.YtedolmjealgeoaaW.PrintMore
set_option linter.unusedVariables false
instance instS24 : Inhabited S24 := ⟨z24⟩
theorem rd_nat (l : List S24) (i : Nat) (h : i < l.length) : rd_T24 l (i : Int) = l[i] := by
  unfold rd_T24
  rw [Int.toNat_natCast, List.getD_eq_getElem?_getD, List.getElem?_eq_getElem h]
  rfl
/-- A plan. -/
def Gd (l : List S24) : Prop := (l.map (·.f0)).Nodup ∧ l.Pairwise (fun a b => lt a b = true)
theorem lt_iff (a b : S24) : lt a b = true ↔ a.f1 < b.f1 ∨ (a.f1 = b.f1 ∧ a.f0 < b.f0) := by unfold lt; simp
theorem lt_false (a b : S24) : lt a b = false ↔ ¬ (a.f1 < b.f1 ∨ (a.f1 = b.f1 ∧ a.f0 < b.f0)) := by rw [← lt_iff]; simp
theorem lt_total (x y : S24) (h1 : lt x y = false) (h2 : lt y x = false) : x = y := by
  rw [lt_false] at h1 h2
  have e0 : x.f0 = y.f0 := by omega
  have e1 : x.f1 = y.f1 := by omega
  cases x; cases y
  simp_all
/-- Timers in order. -/
def psort (l : List S24) : List S24 := l.mergeSort fun x y => !lt y x
/-- Where a timer goes, from the k-th place back. -/
def back (d : S24) (out : List S24) : Nat → Nat
  | 0 => 0
  | k + 1 => if lt d (rd_T24 out k) = true then back d out k else k + 1
def ins (out : List S24) (d : S24) : List S24 := out.take (back d out out.length) ++ (d :: out.drop (back d out out.length))
theorem ins_len (out : List S24) (d : S24) : (ins out d).length = out.length + 1 := by
  unfold ins
  have h : back d out out.length ≤ out.length := by
    generalize out.length = n
    induction n with
    | zero => exact Nat.le_refl _
    | succ n ih => unfold back; split <;> omega
  simp; omega
theorem fold_step {l out : List S24} (h : out.length < l.length) : (l.drop out.length).foldl ins out = (l.drop (ins out (rd_T24 l out.length)).length).foldl ins (ins out (rd_T24 l out.length)) := by
  rw [ins_len, List.drop_eq_getElem_cons h]
  unfold rd_T24
  rw [Int.toNat_natCast, List.getD_eq_getElem?_getD, List.getElem?_eq_getElem h]
  rfl
def isort (l : List S24) : List S24 := l.foldl ins []
theorem bgo_le (l : List S24) (d : S24) : ∀ (f i j : Nat), i ≤ j → bgo l d f i j ≤ j := by
  intro f
  induction f with
  | zero => intro i j h; exact h
  | succ f ih =>
    intro i j h
    unfold bgo
    split
    · split
      · exact ih _ _ (by omega)
      · exact Nat.le_trans (ih _ _ (by omega)) (by omega)
    · exact h
def bsp (l : List S24) (d : S24) : Nat := bgo l d l.length 0 l.length
/-- What Insert computes. -/
def insf (l : List S24) (d : S24) : List S24 := l.take (bsp l d) ++ d :: l.drop (bsp l d)
/-- Not behind. -/
def nb (a b : S24) : Prop := lt b a = false
theorem nb_iff (a b : S24) : nb a b ↔ ¬ (b.f1 < a.f1 ∨ (b.f1 = a.f1 ∧ b.f0 < a.f0)) := by
  unfold nb
  rw [← lt_iff, Bool.not_eq_true]
theorem nb_trans {a b c : S24} (h1 : nb a b) (h2 : nb b c) : nb a c := by rw [nb_iff] at *; omega
theorem nb_total (a b : S24) : nb a b ∨ nb b a := by rw [nb_iff, nb_iff]; omega
theorem nb_anti {a b : S24} (h1 : nb a b) (h2 : nb b a) : a = b := by
  rw [nb_iff] at h1 h2
  have e0 : a.f0 = b.f0 := by omega
  have e1 : a.f1 = b.f1 := by omega
  cases a; cases b; simp_all
theorem nb_of_lt {a b : S24} (h : lt a b = true) : nb a b := by rw [nb_iff]; rw [lt_iff] at h; omega
def So (l : List S24) : Prop := l.Pairwise nb
theorem uniq : ∀ {l m : List S24}, So l → So m → l.Perm m → l = m
  | [], m, _, _, h => (List.Perm.nil_eq h)
  | x :: l, [], _, _, h => absurd (List.Perm.length_eq h) (by simp)
  | x :: l, y :: m, h1, h2, h => by
    have h1' := List.pairwise_cons.1 h1
    have h2' := List.pairwise_cons.1 h2
    have e : x = y := by
      have hx : x ∈ y :: m := h.subset List.mem_cons_self
      have hy : y ∈ x :: l := h.symm.subset List.mem_cons_self
      rcases List.mem_cons.1 hx with hx | hx
      · exact hx
      · rcases List.mem_cons.1 hy with hy | hy
        · exact hy.symm
        · exact nb_anti (h1'.1 y hy) (h2'.1 x hx)
    subst e
    rw [uniq h1'.2 h2'.2 (List.perm_cons x |>.1 h)]
theorem psort_so (l : List S24) : So (psort l) := by
  have h := List.pairwise_mergeSort (le := fun x y : S24 => !lt y x) (fun a b c h1 h2 => by
    have k1 : nb a b := by unfold nb; simpa using h1
    have k2 : nb b c := by unfold nb; simpa using h2
    have := nb_trans k1 k2
    unfold nb at this
    simpa using this) (fun a b => by
    rcases nb_total a b with h | h <;> unfold nb at h <;> simp [h]) l
  unfold So psort
  refine h.imp ?_
  intro a b hab
  unfold nb
  simpa using hab
theorem psort_perm (l : List S24) : (psort l).Perm l := List.mergeSort_perm l _
theorem psort_of {l m : List S24} (h : So m) (hp : m.Perm l) : psort l = m := uniq (psort_so l) h ((psort_perm l).trans hp.symm)
/-- Where back stops. -/
theorem back_spec (d : S24) (out : List S24) : ∀ n, n ≤ out.length → back d out n ≤ n ∧ (∀ j, back d out n ≤ j → j < n → (hj : j < out.length) → lt d out[j] = true) ∧ (∀ j, j + 1 = back d out n → (hj : j < out.length) → nb out[j] d) := by
  intro n
  induction n with
  | zero => intro _; exact ⟨Nat.le_refl _, fun j _ h => absurd h (by omega), fun j h => absurd h (by simp [back])⟩
  | succ n ih =>
    intro hn
    obtain ⟨h1, h2, h3⟩ := ih (by omega)
    unfold back
    by_cases hc : lt d (rd_T24 out n) = true
    · rw [if_pos hc]
      refine ⟨by omega, fun j k1 k2 hj => ?_, h3⟩
      rcases Nat.lt_or_ge j n with h | h
      · exact h2 j k1 h hj
      · have : j = n := by omega
        subst this
        rwa [rd_nat out j hj] at hc
    · rw [if_neg hc]
      refine ⟨Nat.le_refl _, fun j k1 k2 => absurd k1 (by omega), fun j k hj => ?_⟩
      have : j = n := by omega
      subst this
      rw [rd_nat out j hj] at hc
      unfold nb
      simpa using hc
/-- A list parted where d goes, sorted: with d between it is sorted. -/
theorem so_put {l : List S24} (h : So l) (d : S24) (k : Nat) (h1 : ∀ j, j < k → (hj : j < l.length) → nb l[j] d) (h2 : ∀ j, k ≤ j → (hj : j < l.length) → nb d l[j]) : So (l.take k ++ d :: l.drop k) := by
  unfold So
  rw [List.pairwise_append]
  have hb : (l.take k ++ l.drop k).Pairwise nb := by rw [List.take_append_drop]; exact h
  rw [List.pairwise_append] at hb
  have hd : ∀ x ∈ l.drop k, nb d x := by
    intro x hx
    obtain ⟨i, hi, rfl⟩ := List.getElem_of_mem hx
    rw [List.getElem_drop]
    exact h2 _ (by omega) _
  have ht : ∀ x ∈ l.take k, nb x d := by
    intro x hx
    obtain ⟨i, hi, rfl⟩ := List.getElem_of_mem hx
    rw [List.getElem_take]
    rw [List.length_take] at hi
    exact h1 _ (by omega) _
  refine ⟨hb.1, List.pairwise_cons.2 ⟨hd, hb.2.1⟩, fun x hx y hy => ?_⟩
  rcases List.mem_cons.1 hy with rfl | hy
  · exact ht x hx
  · exact hb.2.2 x hx y hy
theorem perm_put (l : List S24) (d : S24) (k : Nat) : (l.take k ++ d :: l.drop k).Perm (d :: l) := by
  have := List.perm_middle (a := d) (l₁ := l.take k) (l₂ := l.drop k)
  rwa [List.take_append_drop] at this
theorem ins_so {out : List S24} (h : So out) (d : S24) : So (ins out d) := by
  obtain ⟨h1, h2, h3⟩ := back_spec d out out.length (Nat.le_refl _)
  unfold ins
  refine so_put h d _ (fun j hj hl => ?_) (fun j hj hl => nb_of_lt (h2 j hj hl hl))
  have hk : back d out out.length - 1 < out.length := by omega
  have h4 := h3 (back d out out.length - 1) (by omega) hk
  rcases Nat.lt_or_ge j (back d out out.length - 1) with hlt | hge
  · exact nb_trans (List.pairwise_iff_getElem.1 h j _ hl hk hlt) h4
  · have : j = back d out out.length - 1 := by omega
    subst this
    exact h4
theorem ins_perm (out : List S24) (d : S24) : (ins out d).Perm (d :: out) := perm_put out d _
theorem foldl_ins (l : List S24) : ∀ out, So out → So (l.foldl ins out) ∧ (l.foldl ins out).Perm (out ++ l) := by
  induction l with
  | nil => intro out h; exact ⟨h, by simp⟩
  | cons d l ih =>
    intro out h
    obtain ⟨h1, h2⟩ := ih (ins out d) (ins_so h d)
    refine ⟨h1, h2.trans ?_⟩
    exact ((ins_perm out d).append_right l).trans (by simpa using (List.perm_middle (a := d) (l₁ := out) (l₂ := l)).symm)
/-- The two sorts are one. -/
theorem isort_eq (l : List S24) : isort l = psort l := by
  obtain ⟨h1, h2⟩ := foldl_ins l [] List.Pairwise.nil
  exact (psort_of h1 (by simpa using h2)).symm
/-- The search, in a sorted list. -/
theorem bgo_spec {l : List S24} (h : So l) (d : S24) : ∀ (f i j : Nat), i ≤ j → j ≤ l.length → j - i ≤ f → (∀ m, m < i → (hm : m < l.length) → lt l[m] d = true) → (∀ m, j ≤ m → (hm : m < l.length) → nb d l[m]) →
    (∀ m, m < bgo l d f i j → (hm : m < l.length) → lt l[m] d = true) ∧ (∀ m, bgo l d f i j ≤ m → (hm : m < l.length) → nb d l[m]) := by
  intro f
  induction f with
  | zero =>
    intro i j h1 h2 h3 h4 h5
    have : i = j := by omega
    subst this
    exact ⟨h4, h5⟩
  | succ f ih =>
    intro i j h1 h2 h3 h4 h5
    unfold bgo
    by_cases hij : i < j
    · rw [if_pos hij]
      obtain ⟨q, hq⟩ : ∃ q, (i + j) / 2 = q := ⟨_, rfl⟩
      have hql : q < l.length := by omega
      rw [hq, rd_nat l q hql]
      by_cases hc : lt l[q] d = true
      · rw [if_pos hc]
        refine ih _ _ (by omega) h2 (by omega) (fun m hm hl => ?_) h5
        rcases Nat.lt_or_ge m q with hmq | hmq
        · have k1 := List.pairwise_iff_getElem.1 h m q hl hql hmq
          rw [nb_iff] at k1
          rw [lt_iff] at hc ⊢
          omega
        · have : m = q := by omega
          subst this
          exact hc
      · rw [if_neg hc]
        refine ih _ _ (by omega) (by omega) (by omega) h4 (fun m hm hl => ?_)
        have k0 : nb d l[q] := by unfold nb; simpa using hc
        rcases Nat.lt_or_ge q m with hmq | hmq
        · exact nb_trans k0 (List.pairwise_iff_getElem.1 h q m hql hl hmq)
        · have : m = q := by omega
          subst this
          exact k0
    · rw [if_neg hij]
      have : i = j := by omega
      subst this
      exact ⟨h4, h5⟩
theorem Gd.so {l : List S24} (h : Gd l) : So l := h.2.imp nb_of_lt
theorem insf_so {l : List S24} (h : So l) (d : S24) : So (insf l d) := by
  obtain ⟨h1, h2⟩ := bgo_spec h d l.length 0 l.length (Nat.zero_le _) (Nat.le_refl _) (by omega) (fun m hm => absurd hm (by omega)) (fun m hm hl => absurd hl (by omega))
  exact so_put h d _ (fun j hj hl => nb_of_lt (h1 j hj hl)) h2
theorem insf_perm (l : List S24) (d : S24) : (insf l d).Perm (d :: l) := perm_put l d _
theorem insf_eq {l : List S24} (h : So l) (d : S24) : insf l d = psort (d :: l) := (psort_of (insf_so h d) (insf_perm l d)).symm
/-- Sorted, and no number twice: a plan. -/
theorem gd_iff (l : List S24) : Gd l ↔ (l.map (·.f0)).Nodup ∧ So l := by
  refine ⟨fun h => ⟨h.1, h.so⟩, fun ⟨h1, h2⟩ => ⟨h1, ?_⟩⟩
  rw [List.nodup_iff_pairwise_ne, List.pairwise_map] at h1
  refine (h1.and h2).imp ?_
  rintro a b ⟨k1, k2⟩
  rw [nb_iff] at k2
  rw [lt_iff]
  omega
theorem gd_psort (l : List S24) (h : (l.map (·.f0)).Nodup) : Gd (psort l) := (gd_iff _).2 ⟨((psort_perm l).map _).nodup_iff.2 h, psort_so l⟩
theorem psort_gd {l : List S24} (h : Gd l) : psort l = l := psort_of h.so (List.Perm.refl _)
theorem psort_congr {l m : List S24} (h : l.Perm m) : psort l = psort m := uniq (psort_so l) (psort_so m) ((psort_perm l).trans (h.trans (psort_perm m).symm))
def ids (l : List S24) : List Int := l.map (·.f0)
def rm (l : List S24) (id : Int) : List S24 := l.filter (fun y => !(y.f0 == id))
theorem any_ids (l : List S24) (id : Int) : l.any (fun x => x.f0 == id) = true ↔ id ∈ ids l := by
  unfold ids
  rw [List.any_eq_true, List.mem_map]
  constructor
  · rintro ⟨x, h1, h2⟩; exact ⟨x, h1, by simpa using h2⟩
  · rintro ⟨x, h1, h2⟩; exact ⟨x, h1, by simpa using h2⟩
theorem any_false (l : List S24) (id : Int) (h : ¬ id ∈ ids l) : l.any (fun x => x.f0 == id) = false := by
  rw [← Bool.not_eq_true, any_ids]; exact h
theorem idx_in (id : Int) : ∀ (l : List S24), (ids l).Nodup → id ∈ ids l → ∀ i : Nat, ∃ p : Nat, p < l.length ∧ Lib.idxByFrom (fun _ y : S24 => y.f0 == id) default l i = ((i + p : Nat) : Int) ∧ l.take p ++ l.drop (p + 1) = rm l id := by
  intro l
  induction l with
  | nil => intro _ h; simp [ids] at h
  | cons y l ih =>
    intro hn hm i
    have hn' : ¬ y.f0 ∈ ids l ∧ (ids l).Nodup := by
      unfold ids at hn ⊢
      rw [List.map_cons, List.nodup_cons] at hn
      exact hn
    by_cases hy : y.f0 = id
    · refine ⟨0, by simp, by unfold Lib.idxByFrom; rw [if_pos (by simpa using hy)]; rfl, ?_⟩
      unfold rm
      rw [List.filter_cons_of_neg (by simp [hy])]
      simp only [List.take_zero, List.nil_append, Nat.zero_add, List.drop_succ_cons, List.drop_zero]
      rw [eq_comm, List.filter_eq_self]
      intro z hz
      have : z.f0 ≠ id := by
        rintro e
        apply hn'.1
        rw [hy, ← e]
        exact List.mem_map.2 ⟨z, hz, rfl⟩
      simpa using this
    · have hm' : id ∈ ids l := by
        unfold ids at hm ⊢
        rw [List.map_cons, List.mem_cons] at hm
        exact hm.resolve_left (fun h => hy h.symm)
      obtain ⟨p, h1, h2, h3⟩ := ih hn'.2 hm' (i + 1)
      refine ⟨p + 1, by simpa using h1, by unfold Lib.idxByFrom; rw [if_neg (by simpa using hy), h2]; omega, ?_⟩
      unfold rm at h3 ⊢
      rw [List.filter_cons_of_pos (by simpa using hy), ← h3]
      rfl
theorem idx_out (id : Int) : ∀ (l : List S24), ¬ id ∈ ids l → ∀ i : Nat, Lib.idxByFrom (fun _ y : S24 => y.f0 == id) default l i = -1 := by
  intro l
  induction l with
  | nil => intro _ i; rfl
  | cons y l ih =>
    intro h i
    unfold ids at h
    rw [List.map_cons, List.mem_cons, not_or] at h
    unfold Lib.idxByFrom
    rw [if_neg (by simpa using fun e => h.1 e.symm)]
    exact ih h.2 (i + 1)
theorem psort_len (l : List S24) : (psort l).length = l.length := (psort_perm l).length_eq
theorem psort_ids (l : List S24) (i : Int) : i ∈ ids (psort l) ↔ i ∈ ids l := ((psort_perm l).map _).mem_iff
theorem rm_psort (l : List S24) (i : Int) : rm (psort l) i = psort (rm l i) := by
  refine (psort_of ?_ ?_).symm
  · exact (psort_so l).filter _
  · exact (psort_perm l).filter _
end Go.Proofs.Ytedolmjealgeoaa.Rg
