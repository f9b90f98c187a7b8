/- Plain laws of sorted lists of timers: a sorted list is told by its elements; the insertion sort, the search, Insert and Cancel. Conditions: none of the program. -/
import Derived.Test.YtboneknainlodaaCore
namespace Go.Proofs.Ytboneknainlodaa.Core
open Go.RowKit Go.Proofs.Ytboneknainlodaa.PBase Go.Proofs.Ytboneknainlodaa.Giv
/-- Not behind. -/
def nb (a b : S32) : Prop := lt b a = false
theorem nb_iff (a b : S32) : nb a b ↔ ¬ (b.f1 < a.f1 ∨ (b.f1 = a.f1 ∧ b.f0 < a.f0)) := by
  unfold nb
  rw [← lt_iff, Bool.not_eq_true]
theorem nb_trans {a b c : S32} (h1 : nb a b) (h2 : nb b c) : nb a c := by rw [nb_iff] at *; omega
theorem nb_total (a b : S32) : nb a b ∨ nb b a := by rw [nb_iff, nb_iff]; omega
theorem nb_anti {a b : S32} (h1 : nb a b) (h2 : nb b a) : a = b := by
  rw [nb_iff] at h1 h2
  have e0 : a.f0 = b.f0 := by omega
  have e1 : a.f1 = b.f1 := by omega
  cases a; cases b; simp_all
theorem nb_of_lt {a b : S32} (h : lt a b = true) : nb a b := by rw [nb_iff]; rw [lt_iff] at h; omega
def So (l : List S32) : Prop := l.Pairwise nb
theorem uniq : ∀ {l m : List S32}, So l → So m → l.Perm m → l = m
  | [], m, _, _, h => (List.Perm.nil_eq h)
  | x :: l, [], _, _, h => absurd (List.Perm.length_eq h) (by simp)
  | x :: l, y :: m, h1, h2, h => by
    have h1' := List.pairwise_cons.1 h1
    have h2' := List.pairwise_cons.1 h2
    have e : x = y := by
      have hx : x ∈ y :: m := h.subset List.mem_cons_self
      have hy : y ∈ x :: l := h.symm.subset List.mem_cons_self
      rcases List.mem_cons.1 hx with hx | hx
      · exact hx
      · rcases List.mem_cons.1 hy with hy | hy
        · exact hy.symm
        · exact nb_anti (h1'.1 y hy) (h2'.1 x hx)
    subst e
    rw [uniq h1'.2 h2'.2 (List.perm_cons x |>.1 h)]
theorem psort_so (l : List S32) : So (psort l) := by
  have h := List.pairwise_mergeSort (le := fun x y : S32 => !lt y x) (fun a b c h1 h2 => by
    have k1 : nb a b := by unfold nb; simpa using h1
    have k2 : nb b c := by unfold nb; simpa using h2
    have := nb_trans k1 k2
    unfold nb at this
    simpa using this) (fun a b => by
    rcases nb_total a b with h | h <;> unfold nb at h <;> simp [h]) l
  unfold So psort
  refine h.imp ?_
  intro a b hab
  unfold nb
  simpa using hab
theorem psort_perm (l : List S32) : (psort l).Perm l := List.mergeSort_perm l _
theorem psort_of {l m : List S32} (h : So m) (hp : m.Perm l) : psort l = m := uniq (psort_so l) h ((psort_perm l).trans hp.symm)
/-- Where back stops. -/
theorem back_spec (d : S32) (out : List S32) : ∀ n, n ≤ out.length → back d out n ≤ n ∧ (∀ j, back d out n ≤ j → j < n → (hj : j < out.length) → lt d out[j] = true) ∧ (∀ j, j + 1 = back d out n → (hj : j < out.length) → nb out[j] d) := by
  intro n
  induction n with
  | zero => intro _; exact ⟨Nat.le_refl _, fun j _ h => absurd h (by omega), fun j h => absurd h (by simp [back])⟩
  | succ n ih =>
    intro hn
    obtain ⟨h1, h2, h3⟩ := ih (by omega)
    unfold back
    by_cases hc : lt d (rd_T32 out n) = true
    · rw [if_pos hc]
      refine ⟨by omega, fun j k1 k2 hj => ?_, h3⟩
      rcases Nat.lt_or_ge j n with h | h
      · exact h2 j k1 h hj
      · have : j = n := by omega
        subst this
        rwa [rd_nat out j hj] at hc
    · rw [if_neg hc]
      refine ⟨Nat.le_refl _, fun j k1 k2 => absurd k1 (by omega), fun j k hj => ?_⟩
      have : j = n := by omega
      subst this
      rw [rd_nat out j hj] at hc
      unfold nb
      simpa using hc
/-- A list parted where d goes, sorted: with d between it is sorted. -/
theorem so_put {l : List S32} (h : So l) (d : S32) (k : Nat) (h1 : ∀ j, j < k → (hj : j < l.length) → nb l[j] d) (h2 : ∀ j, k ≤ j → (hj : j < l.length) → nb d l[j]) : So (l.take k ++ d :: l.drop k) := by
  unfold So
  rw [List.pairwise_append]
  have hb : (l.take k ++ l.drop k).Pairwise nb := by rw [List.take_append_drop]; exact h
  rw [List.pairwise_append] at hb
  have hd : ∀ x ∈ l.drop k, nb d x := by
    intro x hx
    obtain ⟨i, hi, rfl⟩ := List.getElem_of_mem hx
    rw [List.getElem_drop]
    exact h2 _ (by omega) _
  have ht : ∀ x ∈ l.take k, nb x d := by
    intro x hx
    obtain ⟨i, hi, rfl⟩ := List.getElem_of_mem hx
    rw [List.getElem_take]
    rw [List.length_take] at hi
    exact h1 _ (by omega) _
  refine ⟨hb.1, List.pairwise_cons.2 ⟨hd, hb.2.1⟩, fun x hx y hy => ?_⟩
  rcases List.mem_cons.1 hy with rfl | hy
  · exact ht x hx
  · exact hb.2.2 x hx y hy
theorem perm_put (l : List S32) (d : S32) (k : Nat) : (l.take k ++ d :: l.drop k).Perm (d :: l) := by
  have := List.perm_middle (a := d) (l₁ := l.take k) (l₂ := l.drop k)
  rwa [List.take_append_drop] at this
theorem ins_so {out : List S32} (h : So out) (d : S32) : So (ins out d) := by
  obtain ⟨h1, h2, h3⟩ := back_spec d out out.length (Nat.le_refl _)
  unfold ins
  refine so_put h d _ (fun j hj hl => ?_) (fun j hj hl => nb_of_lt (h2 j hj hl hl))
  have hk : back d out out.length - 1 < out.length := by omega
  have h4 := h3 (back d out out.length - 1) (by omega) hk
  rcases Nat.lt_or_ge j (back d out out.length - 1) with hlt | hge
  · exact nb_trans (List.pairwise_iff_getElem.1 h j _ hl hk hlt) h4
  · have : j = back d out out.length - 1 := by omega
    subst this
    exact h4
theorem ins_perm (out : List S32) (d : S32) : (ins out d).Perm (d :: out) := perm_put out d _
theorem foldl_ins (l : List S32) : ∀ out, So out → So (l.foldl ins out) ∧ (l.foldl ins out).Perm (out ++ l) := by
  induction l with
  | nil => intro out h; exact ⟨h, by simp⟩
  | cons d l ih =>
    intro out h
    obtain ⟨h1, h2⟩ := ih (ins out d) (ins_so h d)
    refine ⟨h1, h2.trans ?_⟩
    exact ((ins_perm out d).append_right l).trans (by simpa using (List.perm_middle (a := d) (l₁ := out) (l₂ := l)).symm)
/-- The two sorts are one. -/
theorem isort_eq (l : List S32) : isort l = psort l := by
  obtain ⟨h1, h2⟩ := foldl_ins l [] List.Pairwise.nil
  exact (psort_of h1 (by simpa using h2)).symm
/-- The search, in a sorted list. -/
theorem bgo_spec {l : List S32} (h : So l) (d : S32) : ∀ (f i j : Nat), i ≤ j → j ≤ l.length → j - i ≤ f → (∀ m, m < i → (hm : m < l.length) → lt l[m] d = true) → (∀ m, j ≤ m → (hm : m < l.length) → nb d l[m]) →
    (∀ m, m < bgo l d f i j → (hm : m < l.length) → lt l[m] d = true) ∧ (∀ m, bgo l d f i j ≤ m → (hm : m < l.length) → nb d l[m]) := by
  intro f
  induction f with
  | zero =>
    intro i j h1 h2 h3 h4 h5
    have : i = j := by omega
    subst this
    exact ⟨h4, h5⟩
  | succ f ih =>
    intro i j h1 h2 h3 h4 h5
    unfold bgo
    by_cases hij : i < j
    · rw [if_pos hij]
      obtain ⟨q, hq⟩ : ∃ q, (i + j) / 2 = q := ⟨_, rfl⟩
      have hql : q < l.length := by omega
      rw [hq, rd_nat l q hql]
      by_cases hc : lt l[q] d = true
      · rw [if_pos hc]
        refine ih _ _ (by omega) h2 (by omega) (fun m hm hl => ?_) h5
        rcases Nat.lt_or_ge m q with hmq | hmq
        · have k1 := List.pairwise_iff_getElem.1 h m q hl hql hmq
          rw [nb_iff] at k1
          rw [lt_iff] at hc ⊢
          omega
        · have : m = q := by omega
          subst this
          exact hc
      · rw [if_neg hc]
        refine ih _ _ (by omega) (by omega) (by omega) h4 (fun m hm hl => ?_)
        have k0 : nb d l[q] := by unfold nb; simpa using hc
        rcases Nat.lt_or_ge q m with hmq | hmq
        · exact nb_trans k0 (List.pairwise_iff_getElem.1 h q m hql hl hmq)
        · have : m = q := by omega
          subst this
          exact k0
    · rw [if_neg hij]
      have : i = j := by omega
      subst this
      exact ⟨h4, h5⟩
theorem Gd.so {l : List S32} (h : Gd l) : So l := h.2.imp nb_of_lt
theorem insf_so {l : List S32} (h : So l) (d : S32) : So (insf l d) := by
  obtain ⟨h1, h2⟩ := bgo_spec h d l.length 0 l.length (Nat.zero_le _) (Nat.le_refl _) (by omega) (fun m hm => absurd hm (by omega)) (fun m hm hl => absurd hl (by omega))
  exact so_put h d _ (fun j hj hl => nb_of_lt (h1 j hj hl)) h2
theorem insf_perm (l : List S32) (d : S32) : (insf l d).Perm (d :: l) := perm_put l d _
theorem insf_eq {l : List S32} (h : So l) (d : S32) : insf l d = psort (d :: l) := (psort_of (insf_so h d) (insf_perm l d)).symm
/-- Sorted, and no number twice: a plan. -/
theorem gd_iff (l : List S32) : Gd l ↔ (l.map (·.f0)).Nodup ∧ So l := by
  refine ⟨fun h => ⟨h.1, h.so⟩, fun ⟨h1, h2⟩ => ⟨h1, ?_⟩⟩
  rw [List.nodup_iff_pairwise_ne, List.pairwise_map] at h1
  refine (h1.and h2).imp ?_
  rintro a b ⟨k1, k2⟩
  rw [nb_iff] at k2
  rw [lt_iff]
  omega
theorem gd_psort (l : List S32) (h : (l.map (·.f0)).Nodup) : Gd (psort l) := (gd_iff _).2 ⟨((psort_perm l).map _).nodup_iff.2 h, psort_so l⟩
theorem psort_gd {l : List S32} (h : Gd l) : psort l = l := psort_of h.so (List.Perm.refl _)
theorem psort_congr {l m : List S32} (h : l.Perm m) : psort l = psort m := uniq (psort_so l) (psort_so m) ((psort_perm l).trans (h.trans (psort_perm m).symm))
theorem Ok.perm {l m : List S32} (h : Ok l) (hp : m.Perm l) : Ok m := fun d hd => h d (hp.subset hd)
end Go.Proofs.Ytboneknainlodaa.Core
