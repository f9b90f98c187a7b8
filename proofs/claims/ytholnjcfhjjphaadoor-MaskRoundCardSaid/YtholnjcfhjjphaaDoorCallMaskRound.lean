/- MaskRound: going round a set meets each of its slots once; then as a call. Conditions: the library's table as its initialiser lays it. -/
import Derived.Test.YtholnjcfhjjphaaDoorCallMaskBack
import Derived.Test.YtholnjcfhjjphaaDoorPAllx5
namespace Go.Proofs.YtholnjcfhjjphaaDoor.CallMaskRound
open Go.RowKit Go.Proofs.YtholnjcfhjjphaaDoor.PAll Go.Proofs.YtholnjcfhjjphaaDoor.Tz Go.Proofs.YtholnjcfhjjphaaDoorW.PrintWords Go.Proofs.YtholnjcfhjjphaaDoorW.PrintLast Go.Proofs.YtholnjcfhjjphaaDoorW.PrintMore Go.Proofs.YtholnjcfhjjphaaDoor.Core Go.Proofs.YtholnjcfhjjphaaDoor.CallMaskBack
/-- Round tells the first one met on the way round; or that there is none. -/
theorem near {m g : Int} {r : Int × Bool} (g0 : 0 ≤ g) (g1 : g < 64) (h : IsRound m g r) : (r.2 = true ∧ hs m r.1 = true ∧ ∀ x, hs m x = true → (r.1 - g) % 64 ≤ (x - g) % 64) ∨ (r.2 = false ∧ ∀ x, hs m x = false) := by
  have none_ : ∀ x, (0 ≤ x → hs m x = false) → hs m x = false := fun x h => by
    by_cases hx : hs m x = true
    · exact h (hs_in hx).1
    · simpa using hx
  unfold IsRound at h
  rw [if_pos ⟨g0, g1⟩] at h
  obtain ⟨s, h1, h2⟩ := h
  rcases h1 with ⟨a1, a2, a3, a4, a5⟩ | ⟨rfl, a⟩
  · rw [if_pos a1] at h2
    subst h2
    refine .inl ⟨a1, a4, fun x hx => ?_⟩
    have hx6 := hs_in hx
    have hr6 := hs_in a4
    by_cases hlt : g ≤ x ∧ x < r.1
    · rw [a5 x hx6.1 hlt.1 hlt.2] at hx; cases hx
    · omega
  · rw [if_neg (by decide)] at h2
    rcases h2 with ⟨a1, a2, a3, a4, a5⟩ | ⟨rfl, b⟩
    · refine .inl ⟨a1, a4, fun x hx => ?_⟩
      have hx6 := hs_in hx
      have hr6 := hs_in a4
      have n1 : ¬ g ≤ x := fun hh => by rw [a x hx6.1 hh] at hx; cases hx
      have n2 : ¬ x < r.1 := fun hh => by rw [a5 x hx6.1 hx6.1 hh] at hx; cases hx
      have n3 : ¬ g ≤ r.1 := fun hh => by rw [a r.1 hr6.1 hh] at a4; cases a4
      omega
    · exact .inr ⟨rfl, fun x => none_ x (fun h0 => b x h0 h0)⟩
theorem closes {m : Int} (hm : U m) (seen : List Int) (hs' : ∀ x, x ∈ seen ↔ hs m x = true) (hd : seen.Nodup) (hl : seen.length ≤ 64) (k : Nat) :
    ((mask_List.f (k + 100) m).bind fun t175 => (if (seen.length : Int) = (t175.length : Int) then ((mask_Of.f (k + 100) seen).bind fun t178 => (if t178 = m then ((remontoirlaw04_wakes.f (k + 100)).bind fun t179 => (some t179)) else (none))) else (none))) = some true := by
  have e1 : mask_List.f (k + 100) m = some (ls m) := list hm (k + 35)
  have e2 : mask_Of.f (k + 100) seen = some m := by
    have := of seen (by omega) (k + 99 - seen.length)
    rw [show k + 99 - seen.length + seen.length + 1 = k + 100 by omega, set_eq hm _ hs'] at this
    exact this
  have e3 : remontoirlaw04_wakes.f (k + 100) = some true := wakes (k + 80)
  have hn : (ls m).Nodup := (rise m).imp (fun h => by omega)
  have hlen : seen.length = (ls m).length := ((List.perm_ext_iff_of_nodup hd hn).2 (fun x => (hs' x).trans (mem_ls m x).symm)).length_eq
  rw [e1, Option.bind_some, if_pos (by omega), e2, Option.bind_some, if_pos rfl, e3]
  rfl
theorem walk (m f : Int) (hm : U m) (hf : hs m f = true) : ∀ (d : Nat) (x n : Int) (seen : List Int), hs m x = true → (d : Int) = 63 - (x - f) % 64 → n = seen.length → n ≤ (x - f) % 64 → (∀ y, y ∈ seen ↔ hs m y = true ∧ (y - f) % 64 < (x - f) % 64) → seen.Nodup → ∀ k,
    remontoirlaw04_MaskRound.l0 (k + 2 * d + 102) m f seen x true n = some true := by
  have f6 := hs_in hf
  intro d
  induction d using Nat.strongRecOn with
  | ind d ih =>
    intro x n seen hx hd hn hle hmem hnd k
    have x6 := hs_in hx
    have hlim : seen.length < 17592186044416 := by omega
    obtain ⟨g, hg⟩ : ∃ g, (x + 1) % 64 = g := ⟨_, rfl⟩
    have e0 : Int.tmod (wrap64 (x + 1)) 64 = g := by
      rw [show wrap64 (x + 1) = x + 1 by unfold wrap64; omega, Int.tmod_eq_emod_of_nonneg (by omega), hg]
    obtain ⟨r, r1, r2⟩ := round hm g
    have wn : wrap64 (n + 1) = n + 1 := by unfold wrap64; omega
    have hmem' : ∀ y, y ∈ seen ++ [x] ↔ hs m y = true ∧ (y - f) % 64 ≤ (x - f) % 64 := fun y => by
      rw [List.mem_append, List.mem_singleton, hmem]
      constructor
      · rintro (⟨h1, h2⟩ | rfl)
        · exact ⟨h1, by omega⟩
        · exact ⟨hx, by omega⟩
      · rintro ⟨h1, h2⟩
        have y6 := hs_in h1
        by_cases e : y = x
        · exact .inr e
        · exact .inl ⟨h1, by omega⟩
    have hnd' : (seen ++ [x]).Nodup := by
      rw [List.nodup_append]
      refine ⟨hnd, by simp, fun a ha b hb => ?_⟩
      rw [List.mem_singleton.1 hb]
      rintro rfl
      have := ((hmem a).1 ha).2
      omega
    have hl' : (seen ++ [x]).length = seen.length + 1 := by simp
    rw [show k + 2 * d + 102 = (k + 2 * d + 100) + 2 by omega, remontoirlaw04_MaskRound.l0, if_pos rfl, decide_eq_true (show n < 64 by omega), remontoirlaw04_MaskRound.j1, if_pos rfl, if_pos hlim, Option.bind_some, e0, r1, Option.bind_some, wn]
    rcases near (by omega) (by omega) r2 with ⟨a1, a2, a3⟩ | ⟨_, b⟩
    · have r6 := hs_in a2
      by_cases e : r.1 = f
      · rw [if_pos e]
        refine closes hm _ (fun y => ⟨fun h => ((hmem' y).1 h).1, fun h => (hmem' y).2 ⟨h, ?_⟩⟩) hnd' (by omega) (k + 2 * d)
        have := a3 y h
        have y6 := hs_in h
        rw [e] at this
        omega
      · rw [if_neg e]
        have hfm := a3 f hf
        have h1 : (x - f) % 64 < (r.1 - f) % 64 := by omega
        obtain ⟨q, hq⟩ : ∃ q : Nat, (q : Int) = 63 - (r.1 - f) % 64 := ⟨(63 - (r.1 - f) % 64).toNat, by omega⟩
        obtain ⟨z, hz⟩ : ∃ z, d = q + 1 + z := ⟨d - (q + 1), by omega⟩
        rw [a1, show k + 2 * d + 100 = (k + 2 * z) + 2 * q + 102 by omega]
        refine ih q (by omega) r.1 (n + 1) _ a2 hq (by omega) (by omega) (fun y => (hmem' y).trans ⟨fun h => ⟨h.1, by omega⟩, fun h => ⟨h.1, ?_⟩⟩) hnd' _
        have := a3 y h.1
        have y6 := hs_in h.1
        omega
    · rw [b x] at hx; cases hx
theorem told (m a : Int) (hm : U m) (ha : 0 ≤ a ∧ a ≤ 255) : ∃ k, remontoirlaw04_MaskRound.f k m a = some true := by
  obtain ⟨g, hg⟩ : ∃ g, a % 64 = g := ⟨_, rfl⟩
  have e0 : Int.tmod (wrap64 a) 64 = g := by
    rw [show wrap64 a = a by unfold wrap64; omega, Int.tmod_eq_emod_of_nonneg (by omega), hg]
  obtain ⟨r, r1, r2⟩ := round hm g
  refine ⟨300, ?_⟩
  unfold remontoirlaw04_MaskRound.f
  rw [e0, r1, Option.bind_some]
  rcases near (by omega) (by omega) r2 with ⟨a1, a2, a3⟩ | ⟨b1, b⟩
  · have hne : m ≠ 0 := by rintro rfl; rw [hs_zero] at a2; cases a2
    rw [if_neg (by rw [a1, bne_iff_ne.2 hne]; decide), a1]
    obtain ⟨q, hq⟩ : ∃ q : Nat, (q : Int) = 63 - (r.1 - r.1) % 64 := ⟨63, by simp⟩
    rw [show 300 = (198 - 2 * q) + 2 * q + 102 by omega]
    refine walk m r.1 hm a2 q r.1 0 [] a2 hq rfl (by omega) (fun y => ⟨fun h => absurd h List.not_mem_nil, fun h => ?_⟩) List.nodup_nil _
    have := h.2
    omega
  · have h0 : m = 0 := by
      refine ext hm U_zero (fun i _ _ => ?_)
      rw [b, hs_zero]
    subst h0
    rw [if_neg (by rw [b1]; decide), b1, show 300 = (198 + 100) + 2 by rfl, remontoirlaw04_MaskRound.l0, if_neg (by decide), remontoirlaw04_MaskRound.j1, if_neg (by decide)]
    exact closes hm [] (fun x => ⟨fun h => absurd h List.not_mem_nil, fun h => absurd h (by rw [b]; decide)⟩) List.nodup_nil (by simp) 198
set_option linter.unusedVariables false
theorem calls (W : World) (hT : TabOk W) (a0 : Int) (w0 : (Lit.int .u64 a0).wf = true) (a1 : Int) (w1 : (Lit.int .u8 a1).wf = true) :
    Calls Tryd.prog 6 #[.int .u64 a0, .int .u8 a1] W fun e w' => e = .returned (.bool true) ∧ Below W.heap.size W w' := by
  have hb := Go.bounds_u64 w0
  obtain ⟨k, hk⟩ := told a0 a1 (by unfold U; omega) (Go.bounds_u8 w1)
  exact remontoirlaw04_MaskRound.calls k a0 a1 true W hk hT
end Go.Proofs.YtholnjcfhjjphaaDoor.CallMaskRound
