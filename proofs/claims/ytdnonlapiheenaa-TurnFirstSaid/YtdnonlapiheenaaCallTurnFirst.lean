/- TurnFirst: of jobs of unlike numbers the first one has nobody ahead, and how many are ahead is told once each; then as a call. Conditions: the bounds that are given. -/
import Derived.Test.YtdnonlapiheenaaCore
import Derived.Test.YtdnonlapiheenaaPAllx8
import Derived.Test.YtdnonlapiheenaaOpenKd
import Derived.OpenShut
namespace Go.Proofs.Ytdnonlapiheenaa.CallTurnFirst
open Go.RowKit Go.Proofs.Ytdnonlapiheenaa.PAll Go.Proofs.YtdnonlapiheenaaW.PrintWords Go.Proofs.YtdnonlapiheenaaW.PrintLast Go.Proofs.Ytdnonlapiheenaa.Core Go.Proofs.Ytdnonlapiheenaa.Open
theorem countP_lt {α : Type} {p q : α → Bool} : ∀ {l : List α}, (∀ x, p x = true → q x = true) → (∃ z, z ∈ l ∧ q z = true ∧ p z = false) → l.countP p < l.countP q
  | [], _, h => by obtain ⟨z, hz, _⟩ := h; cases hz
  | x :: l, hpq, h => by
    have mono : l.countP p ≤ l.countP q := List.countP_mono_left (fun y _ hy => hpq y hy)
    rw [List.countP_cons, List.countP_cons]
    obtain ⟨z, hz, h1, h2⟩ := h
    rcases List.mem_cons.1 hz with rfl | hz
    · rw [h1, h2]; simp; omega
    · have := countP_lt hpq ⟨z, hz, h1, h2⟩
      cases hp : p x with
      | true => rw [hpq x hp]; simp; omega
      | false => cases q x <;> simp <;> omega
theorem rd_mem {l : List S26} {j : Int} (h0 : 0 ≤ j) (h1 : j < (l.length : Int)) : rd_T26 l j ∈ l := by
  unfold rd_T26
  rw [List.getD_eq_getElem?_getD, List.getElem?_eq_getElem (show j.toNat < l.length by omega)]
  exact List.getElem_mem _
theorem cnt_lt {a : Int} {l : List S26} {x y : S26} (hx : x ∈ l) (h : Ls a x y) : cnt a x l < cnt a y l := by
  unfold cnt
  have := countP_lt (p := fun z => decide (Ls a z x)) (q := fun z => decide (Ls a z y)) (l := l) (fun z hz => by simp at *; exact hz.trans h) ⟨x, hx, by simpa using h, by simpa using Ls.irrefl a x⟩
  omega
theorem cnt_lt_length {a : Int} {l : List S26} {x : S26} (hx : x ∈ l) : cnt a x l < l.length := by
  unfold cnt
  have := countP_lt (p := fun z => decide (Ls a z x)) (q := fun _ => true) (l := l) (fun z _ => rfl) ⟨x, hx, rfl, by simpa using Ls.irrefl a x⟩
  rw [List.countP_true] at this
  omega
theorem cnt_zero {a : Int} {w : S26} {l : List S26} (h : cnt a w l = 0) (j : Int) (h0 : 0 ≤ j) (h1 : j < (l.length : Int)) : ¬ Ls a (rd_T26 l j) w := by
  unfold cnt at h
  have h' : (l.countP fun x => decide (Ls a x w)) = 0 := by omega
  rw [List.countP_eq_zero] at h'
  simpa using h' _ (rd_mem h0 h1)
/-- Each job has its place's number. -/
def Nums (l : List S26) : Prop := ∀ j, 0 ≤ j → j < (l.length : Int) → (rd_T26 l j).f0 = j
theorem total {a : Int} {l : List S26} (h : Nums l) {i j : Int} (i0 : 0 ≤ i) (i1 : i < (l.length : Int)) (j0 : 0 ≤ j) (j1 : j < (l.length : Int)) (hne : i ≠ j) : Ls a (rd_T26 l i) (rd_T26 l j) ∨ Ls a (rd_T26 l j) (rd_T26 l i) := by
  have hi := h i i0 i1
  have hj := h j j0 j1
  unfold Ls
  omega
/-- What was seen. -/
def Seen (a : Int) (l : List S26) (i : Int) (s : List Bool) : Prop := s.length = l.length ∧ ∀ m, 0 ≤ m → rdOf false s m = true → ∃ j, 0 ≤ j ∧ j < i ∧ cnt a (rd_T26 l j) l = m
theorem seen_set {a : Int} {l : List S26} {i : Int} {s : List Bool} (h : Seen a l i s) (h0 : 0 ≤ i) : Seen a l (i + 1) (s.set (cnt a (rd_T26 l i) l).toNat true) := by
  refine ⟨by rw [List.length_set]; exact h.1, fun m h1 hm => ?_⟩
  by_cases e : m = cnt a (rd_T26 l i) l
  · exact ⟨i, h0, by omega, e.symm⟩
  · have hm' : rdOf false s m = true := by
      have hc := cnt_nonneg a (rd_T26 l i) l
      unfold rdOf at *
      rw [List.getD_eq_getElem?_getD] at *
      rw [List.getElem?_set_ne (by omega)] at hm
      exact hm
    obtain ⟨j, j0, j1, hj⟩ := h.2 m h1 hm'
    exact ⟨j, j0, by omega, hj⟩
theorem seen_from (a q : Int) (l : List S26) (hl : l.length ≤ 30) (hn : Nums l) (hq : IsFirst a l l.length q) : ∀ (d : Nat) (i : Int) (s : List Bool), 0 ≤ i → (l.length : Int) - i = d → Seen a l i s → ∀ k,
    remontoirlaw08_TurnFirst.l1 (k + d + 60) a l q s i = some true := by
  obtain ⟨q0, q1, q2, q3⟩ := hq
  intro d
  induction d with
  | zero =>
    intro i s h0 hd hs k
    rw [show k + 0 + 60 = (k + 59) + 1 by omega, remontoirlaw08_TurnFirst.l1, if_neg (by omega), show k + 59 = (k + 39) + 20 by omega, wakes]
    rfl
  | succ d ih =>
    intro i s h0 hd hs k
    have i1 : i < (l.length : Int) := by omega
    have hc0 := cnt_nonneg a (rd_T26 l i) l
    have hc1 := cnt_lt_length (a := a) (rd_mem h0 i1)
    have hnew : ¬ rdOf false s (cnt a (rd_T26 l i) l) = true := by
      intro hc
      obtain ⟨j, j0, j1, hj⟩ := hs.2 _ hc0 hc
      rcases total (a := a) hn h0 i1 j0 (by omega) (by omega) with h | h
      · have := cnt_lt (rd_mem h0 i1) h; omega
      · have := cnt_lt (rd_mem j0 (by omega)) h; omega
    have hz : (cnt a (rd_T26 l i) l == 0) = (i == q) := by
      by_cases e : i = q
      · subst e
        have : cnt a (rd_T26 l i) l = 0 := by
          unfold cnt
          have : (l.countP fun x => decide (Ls a x (rd_T26 l i))) = 0 := by
            rw [List.countP_eq_zero]
            intro x hx
            obtain ⟨j, hj, rfl⟩ := List.getElem_of_mem hx
            have := q2 j (by omega) (by omega)
            unfold rd_T26 at this ⊢
            rw [List.getD_eq_getElem?_getD, Int.toNat_natCast, List.getElem?_eq_getElem hj] at this
            simpa using this
          omega
        simp [this]
      · have : cnt a (rd_T26 l i) l ≠ 0 := by
          intro hc
          rcases total (a := a) hn h0 i1 q0 q1 e with h | h
          · exact q2 i h0 i1 h
          · exact cnt_zero hc q q0 q1 h
        rw [beq_eq_false_iff_ne.2 this, beq_eq_false_iff_ne.2 e]
    have ha : turn_Ahead.f (k + d + 60) a (rd_T26 l i).f0 (rd_T26 l i).f1 (rd_T26 l i).f2 l = some (cnt a (rd_T26 l i) l) := by
      have := Core.ahead a (rd_T26 l i) l (by omega) (k + d + 59 - l.length)
      rwa [show k + d + 59 - l.length + l.length + 1 = k + d + 60 by omega] at this
    rw [show k + (d + 1) + 60 = (k + d + 60) + 1 by omega, remontoirlaw08_TurnFirst.l1, if_pos i1, if_pos h0, ha]
    simp only [Option.bind_some]
    rw [if_neg (by omega), if_neg (by omega), if_pos hc0, if_pos (by rw [hs.1]; exact hc1), if_neg hnew, hz, if_neg (by simp), wi (n := l.length) h0 i1 (by omega)]
    exact ih (i + 1) _ (by omega) (by omega) (seen_set hs h0) k
theorem built (a : Int) (l : List S23) (hl : l.length ≤ 30) : ∀ (d : Nat) (i : Int) (js : List S26), 0 ≤ i → (l.length : Int) - i = d → (js.length : Int) = i → Nums js → ∀ k,
    remontoirlaw08_TurnFirst.l0 (k + d + 120) l a js i = some true := by
  intro d
  induction d with
  | zero =>
    intro i js h0 hd hj hn k
    obtain ⟨q, hq, hh⟩ := first a js (by omega)
    have e1 : turn_First.f (k + 119) a js = some q := by
      have := hq (k + 118 - js.length)
      rwa [show k + 118 - js.length + js.length + 1 = k + 119 by omega] at this
    rw [show k + 0 + 120 = (k + 119) + 1 by omega, remontoirlaw08_TurnFirst.l0, if_neg (by omega), e1]
    simp only [Option.bind_some]
    rcases hh with ⟨rfl, rfl⟩ | hf
    · rw [if_pos (by simp), if_pos rfl, show k + 119 = (k + 99) + 20 by omega, wakes]
      rfl
    · have ⟨h1, h2, _⟩ := hf
      rw [if_neg (by omega), if_neg (by omega), decide_eq_false (by omega), show k + 119 = (k + 118) + 1 by omega, remontoirlaw08_TurnFirst.j1, if_neg (by decide), if_pos (by omega), if_pos (by omega)]
      have := seen_from a q js (by omega) hn hf js.length 0 (List.replicate ((js.length : Int)).toNat false) (by omega) (by omega) ⟨by simp, fun m _ hm => by
        unfold rdOf at hm
        rw [List.getD_eq_getElem?_getD, List.getElem?_replicate] at hm
        split at hm <;> simp at hm⟩ (k + 58 - js.length)
      rwa [show k + 58 - js.length + js.length + 60 = k + 118 by omega] at this
  | succ d ih =>
    intro i js h0 hd hj hn k
    rw [show k + (d + 1) + 120 = (k + d + 120) + 1 by omega, remontoirlaw08_TurnFirst.l0, if_pos (by omega), if_pos h0]
    unfold remontoirlaw08_job.f
    simp only [Option.bind_some]
    rw [if_pos (by omega), wi (n := l.length) h0 (by omega) (by omega)]
    refine ih (i + 1) _ (by omega) (by omega) (by rw [List.length_append]; simp; omega) (fun j j0 j1 => ?_) k
    rw [List.length_append] at j1
    simp only [List.length_cons, List.length_nil] at j1
    by_cases e : j = i
    · subst e
      unfold rd_T26
      rw [List.getD_eq_getElem?_getD, List.getElem?_append_right (by omega), show j.toNat - js.length = 0 by omega]
      rfl
    · have := hn j j0 (by omega)
      unfold rd_T26 at *
      rw [List.getD_eq_getElem?_getD] at *
      rw [List.getElem?_append_left (by omega)]
      exact this
theorem firsts_told (n : Int) (l : List S23) : ∃ k, remontoirlaw08_TurnFirst.f k n l = some true := by
  by_cases h : (l.length : Int) > 30
  · refine ⟨20, ?_⟩
    unfold remontoirlaw08_TurnFirst.f
    rw [if_pos h, wakes 0]
    rfl
  · refine ⟨0 + l.length + 120, ?_⟩
    unfold remontoirlaw08_TurnFirst.f
    rw [if_neg h]
    exact built _ l (by omega) l.length 0 [] (by omega) (by omega) rfl (fun j _ hj => by simp at hj; omega) 0
def two (ns : List Int) : S23 := ⟨ns.headD 0, ns.tail.headD 0⟩
theorem two_K (W : World) (ns : List Int) (h : Fits [.u16, .u16] ns) : k23.K W (two ns) (ints [.u16, .u16] ns) := by
  obtain ⟨a, r, rfl, _, h⟩ := fits_cons h
  obtain ⟨b, r, rfl, _, h⟩ := fits_cons h
  obtain rfl := fits_nil h
  exact k23_mk W (two [a, b])
set_option linter.unusedVariables false
theorem calls (W : World) (a0 : Int) (w0 : (Lit.int .u16 a0).wf = true) (a1 : Option Addr) (c1 : Nat) (l1 : List (List Int)) (r1 : RowsOf W [.u16, .u16] a1 l1) (x1 : l1.length ≤ c1) (m1 : c1 ≤ maxLen) (y1 : l1.length * 4 ≤ 140737488351232) :
    Calls Try.prog 7 #[.int .u16 a0, .slice a1 l1.length c1] W fun e w' => e = .returned (.bool true) ∧ Below W.heap.size W w' := by
  obtain ⟨k, hk⟩ := firsts_told a0 (l1.map two)
  have h := remontoirlaw08_TurnFirst.calls k a0 a1 c1 (l1.map two) true W (kd_rows (d := k23) two rfl (two_K W) r1 (by omega)) (by simpa using x1) hk
  rw [List.length_map] at h
  exact h
end Go.Proofs.Ytdnonlapiheenaa.CallTurnFirst
