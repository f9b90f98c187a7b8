/- MaskBack: a set is the set of those that are in, which rise, in any order and told twice; then as a call. Conditions: the library's table as its initialiser lays it. -/
import Derived.Test.YtholnjcfhjjphaaDoorCore
import Derived.Test.YtholnjcfhjjphaaDoorPAllx4
import Derived.OpenShut
namespace Go.Proofs.YtholnjcfhjjphaaDoor.CallMaskBack
open Go.RowKit Go.Proofs.YtholnjcfhjjphaaDoor.PAll Go.Proofs.YtholnjcfhjjphaaDoor.Tz Go.Proofs.YtholnjcfhjjphaaDoorW.PrintWords Go.Proofs.YtholnjcfhjjphaaDoorW.PrintLast Go.Proofs.YtholnjcfhjjphaaDoorW.PrintMore Go.Proofs.YtholnjcfhjjphaaDoor.Core
theorem rd_at {l : List Int} {j : Nat} (h : j < l.length) : rd l j = l[j] := by
  unfold rd
  rw [List.getD_eq_getElem?_getD, Int.toNat_natCast, List.getElem?_eq_getElem h]
  rfl
theorem rd_mem {l : List Int} {j : Int} (h0 : 0 ≤ j) (h1 : j < (l.length : Int)) : rd l j ∈ l := by
  obtain ⟨n, rfl⟩ : ∃ n : Nat, j = n := ⟨j.toNat, by omega⟩
  rw [rd_at (by omega)]
  exact List.getElem_mem _
theorem rd_rise {l : List Int} (h : l.Pairwise (· < ·)) {i j : Int} (h0 : 0 ≤ i) (h1 : i < j) (h2 : j < (l.length : Int)) : rd l i < rd l j := by
  obtain ⟨a, rfl⟩ : ∃ n : Nat, i = n := ⟨i.toNat, by omega⟩
  obtain ⟨b, rfl⟩ : ∃ n : Nat, j = n := ⟨j.toNat, by omega⟩
  rw [rd_at (by omega), rd_at (by omega)]
  exact List.pairwise_iff_getElem.1 h a b (by omega) (by omega) (by omega)
theorem empty_iff {m : Int} (hm : U m) : ((ls m).length : Int) = 0 ↔ m = 0 := by
  constructor
  · intro h
    have e : ls m = [] := List.eq_nil_of_length_eq_zero (by omega)
    have := set_eq hm (ls m) (mem_ls m)
    rw [e] at this
    exact this.symm
  · rintro rfl
    have : ls 0 = [] := List.eq_nil_iff_forall_not_mem.2 (fun x hx => by rw [mem_ls, hs_zero] at hx; cases hx)
    rw [this]; rfl
/-- Behind the checks: both sets are the set. -/
theorem last (m : Int) (hm : U m) (tw : List Int) (h1 : ∀ x, x ∈ tw ↔ x ∈ ls m) (hl : tw.length ≤ 200) (k : Nat) :
    ((mask_Of.f (k + 300) (ls m)).bind fun t166 => (if t166 = m then ((mask_Of.f (k + 300) tw).bind fun t167 => (if t167 = m then (if ((((ls m).length : Int) == 0) == (m == 0)) = true then ((remontoirlaw04_wakes.f (k + 300)).bind fun t168 => (some t168)) else (none)) else (none))) else (none))) = some true := by
  have hlen := len_ls m
  have e1 : mask_Of.f (k + 300) (ls m) = some m := by
    have := of (ls m) (by omega) (k + 299 - (ls m).length)
    rw [show k + 299 - (ls m).length + (ls m).length + 1 = k + 300 by omega, set_eq hm _ (mem_ls m)] at this
    exact this
  have e2 : mask_Of.f (k + 300) tw = some m := by
    have := of tw (by omega) (k + 299 - tw.length)
    rw [show k + 299 - tw.length + tw.length + 1 = k + 300 by omega, set_eq hm _ (fun x => (h1 x).trans (mem_ls m x))] at this
    exact this
  have e3 : remontoirlaw04_wakes.f (k + 300) = some true := wakes (k + 280)
  have e4 : ((((ls m).length : Int) == 0) == (m == 0)) = true := by
    rw [beq_iff_eq, Bool.eq_iff_iff, beq_iff_eq, beq_iff_eq]
    exact empty_iff hm
  rw [e1, e2, e3, Option.bind_some, if_pos rfl, Option.bind_some, if_pos rfl, if_pos e4]
  rfl
theorem twice (m t : Int) (hm : U m) (ht : 0 ≤ t ∧ t ≤ 255) : ∀ (d : Nat) (i : Int) (tw : List Int), 0 ≤ i → ((ls m).length : Int) - i = d → (tw.length : Int) = 2 * i → (∀ x ∈ tw, x ∈ ls m) → (∀ j, 0 ≤ j → j < i → rd (ls m) ((ls m).length - 1 - j) ∈ tw) → ∀ k,
    remontoirlaw04_MaskBack.l1 (k + d + 301) m t (ls m) tw i = some true := by
  have hlen := len_ls m
  intro d
  induction d with
  | zero =>
    intro i tw h0 hd hl hin hout k
    rw [show k + 0 + 301 = (k + 300) + 1 by omega, remontoirlaw04_MaskBack.l1, if_neg (by omega)]
    refine last m hm tw (fun x => ⟨hin x, fun hx => ?_⟩) (by omega) k
    obtain ⟨n, hn, rfl⟩ := List.getElem_of_mem hx
    have := hout ((ls m).length - 1 - n) (by omega) (by omega)
    rw [show ((ls m).length : Int) - 1 - ((ls m).length - 1 - n) = n by omega, rd_at hn] at this
    exact this
  | succ d ih =>
    intro i tw h0 hd hl hin hout k
    have w1 : wrap64 t = t := by unfold wrap64; omega
    have w2 : wrap64 (i + t) = i + t := by unfold wrap64; omega
    have w3 : wrap64 (((ls m).length : Int) - 1) = (ls m).length - 1 := by unfold wrap64; omega
    have w4 : wrap64 (((ls m).length : Int) - 1 - i) = (ls m).length - 1 - i := by unfold wrap64; omega
    have w5 : wrap64 (i + 1) = i + 1 := by unfold wrap64; omega
    have hm0 : 0 ≤ Int.tmod (i + t) (ls m).length ∧ Int.tmod (i + t) (ls m).length < (ls m).length := by
      rw [Int.tmod_eq_emod_of_nonneg (by omega)]
      exact ⟨Int.emod_nonneg _ (by omega), Int.emod_lt_of_pos _ (by omega)⟩
    have hlim : tw.length + ([rd (ls m) (Int.tmod (i + t) (ls m).length), rd (ls m) ((ls m).length - 1 - i)] : List Int).length < 17592186044416 := by
      show tw.length + 2 < 17592186044416
      omega
    rw [show k + (d + 1) + 301 = (k + d + 301) + 1 by omega, remontoirlaw04_MaskBack.l1, if_pos (by omega), if_neg (by omega), w1, w2, w3, w4, if_pos hm0.1, if_pos hm0.2, if_pos (by omega), if_pos (by omega), Option.bind_some, if_pos hlim, w5]
    refine ih (i + 1) _ (by omega) (by omega) (by rw [List.length_append]; show ((tw.length + 2 : Nat) : Int) = _; omega) (fun x hx => ?_) (fun j j0 j1 => ?_) k
    · rcases List.mem_append.1 hx with hx | hx
      · exact hin x hx
      · rcases List.mem_cons.1 hx with rfl | hx
        · exact rd_mem hm0.1 hm0.2
        · rw [List.mem_singleton.1 hx]; exact rd_mem (by omega) (by omega)
    · by_cases e : j = i
      · subst e
        exact List.mem_append_right _ (List.mem_cons_of_mem _ (List.mem_singleton.2 rfl))
      · exact List.mem_append_left _ (hout j j0 (by omega))
theorem checks (m t : Int) (hm : U m) (ht : 0 ≤ t ∧ t ≤ 255) : ∀ (d : Nat) (i : Int), 0 ≤ i → ((ls m).length : Int) - i = d → ∀ k, remontoirlaw04_MaskBack.l0 (k + d + 400) m t (ls m) i = some true := by
  have hlen := len_ls m
  intro d
  induction d with
  | zero =>
    intro i h0 hd k
    rw [show k + 0 + 400 = (k + 98 - (ls m).length + (ls m).length + 301) + 1 by omega, remontoirlaw04_MaskBack.l0, if_neg (by omega)]
    exact twice m t hm ht (ls m).length 0 [] (by omega) (by omega) rfl (fun x hx => by cases hx) (fun j h1 h2 => by omega) _
  | succ d ih =>
    intro i h0 hd k
    have i1 : i < ((ls m).length : Int) := by omega
    have hin := (mem_ls m _).1 (rd_mem h0 i1)
    have h64 := hs_in hin
    have w5 : wrap64 (i + 1) = i + 1 := by unfold wrap64; omega
    have w6 : wrap64 (i - 1) = i - 1 := by unfold wrap64; omega
    rw [show k + (d + 1) + 400 = (k + d + 400) + 1 by omega, remontoirlaw04_MaskBack.l0, if_pos i1, if_pos h0, if_neg (by omega), if_neg (by omega)]
    by_cases hp : i > 0
    · have hr := rd_rise (rise m) (show 0 ≤ i - 1 by omega) (show i - 1 < i by omega) i1
      rw [if_pos hp, w6, if_pos (by omega), if_pos (by omega), if_neg (by omega), has hm, hin, Option.bind_some, if_pos rfl, w5]
      exact ih (i + 1) (by omega) (by omega) k
    · rw [if_neg hp, has hm, hin, Option.bind_some, if_pos rfl, w5]
      exact ih (i + 1) (by omega) (by omega) k
theorem told (m t : Int) (hm : U m) (ht : 0 ≤ t ∧ t ≤ 255) : ∃ k, remontoirlaw04_MaskBack.f k m t = some true := by
  have hlen := len_ls m
  refine ⟨0 + (ls m).length + 400, ?_⟩
  unfold remontoirlaw04_MaskBack.f
  rw [show 0 + (ls m).length + 400 = ((ls m).length + 335) + 65 by omega, list hm, Option.bind_some, show (ls m).length + 335 + 65 = 0 + (ls m).length + 400 by omega]
  exact checks m t hm ht (ls m).length 0 (by omega) (by omega) 0
set_option linter.unusedVariables false
theorem calls (W : World) (hT : TabOk W) (a0 : Int) (w0 : (Lit.int .u64 a0).wf = true) (a1 : Int) (w1 : (Lit.int .u8 a1).wf = true) :
    Calls Tryd.prog 5 #[.int .u64 a0, .int .u8 a1] W fun e w' => e = .returned (.bool true) ∧ Below W.heap.size W w' := by
  have hb := Go.bounds_u64 w0
  obtain ⟨k, hk⟩ := told a0 a1 (by unfold U; omega) (Go.bounds_u8 w1)
  exact remontoirlaw04_MaskBack.calls k a0 a1 true W hk hT
end Go.Proofs.YtholnjcfhjjphaaDoor.CallMaskBack
