/- TurnServed: whatever jobs come, the one that waits is taken within the bound; then as a call. Conditions: the bounds that are given. -/
import Derived.Test.YtdnonlapiheenaaCore
import Derived.Test.YtdnonlapiheenaaPAllx4
import Derived.Test.YtdnonlapiheenaaOpenKd
import Derived.OpenShut
namespace Go.Proofs.Ytdnonlapiheenaa.CallTurnServed
open Go.RowKit Go.Proofs.Ytdnonlapiheenaa.PAll Go.Proofs.YtdnonlapiheenaaW.PrintWords Go.Proofs.YtdnonlapiheenaaW.PrintLast Go.Proofs.Ytdnonlapiheenaa.Core Go.Proofs.Ytdnonlapiheenaa.Open

theorem rd_at {l : List S26} {j : Nat} (h : j < l.length) : rd_T26 l j = l[j] := by
  unfold rd_T26
  rw [List.getD_eq_getElem?_getD, Int.toNat_natCast, List.getElem?_eq_getElem h]
  rfl
/-- The line: jobs that may wait, come by now; one of them is ours, number 0, of class c. -/
structure Line (c count : Int) (l : List S26) : Prop where
  ours : (⟨0, c, 7⟩ : S26) ∈ l
  all : ∀ x ∈ l, x = ⟨0, c, 7⟩ ∨ x.f0 ≠ 0 ∧ 0 ≤ x.f1 ∧ x.f1 ≤ 7 ∧ 7 ≤ x.f2 ∧ x.f2 ≤ 7 + count
/-- How many are ahead of ours. -/
def ah (a c : Int) (l : List S26) : Nat := l.countP fun x => decide (Ls a x ⟨0, c, 7⟩)
/-- How many may be ahead, when a turn begins: as many as there is room for; once those that come now are behind, one less each turn. -/
def Few (a c room count : Int) (n : Nat) : Prop := (n : Int) ≤ room - 1 ∧ (a * c < count → (n : Int) + (count - a * c) ≤ room - 1)

theorem come_behind {a c count : Int} (ha : 1 ≤ a) (ha2 : a ≤ 12) (hc : 0 ≤ c) (hc7 : c ≤ 7) {x : S26} (h1 : 0 ≤ x.f1) (h2 : x.f1 ≤ 7) (h3 : x.f2 = 7 + count) (h0 : a * c < count) (hb : count ≤ 1000000) : ¬ Ls a x ⟨0, c, 7⟩ := by
  have hac := Int.mul_nonneg (show 0 ≤ a by omega) hc
  have hx := Int.mul_nonneg (show 0 ≤ a by omega) h1
  have e1 : T a x.f1 x.f2 = x.f2 + a * x.f1 := T_of (by unfold Gd; omega) ha (by omega)
  have e2 : T a c 7 = 7 + a * c := T_of (by unfold Gd; omega) ha (by omega)
  unfold Ls
  show ¬ (T a x.f1 x.f2 < T a c 7 ∨ T a x.f1 x.f2 = T a c 7 ∧ x.f0 < 0)
  rw [e1, e2]
  omega
theorem ah_snoc (a c : Int) (l : List S26) (x : S26) : ah a c (l ++ [x]) ≤ ah a c l + 1 ∧ (¬ Ls a x ⟨0, c, 7⟩ → ah a c (l ++ [x]) = ah a c l) := by
  unfold ah
  rw [List.countP_append, List.countP_cons, List.countP_nil]
  constructor
  · split <;> omega
  · intro h; rw [if_neg (by simpa using h)]; omega
theorem ah_lt {a c count : Int} {l : List S26} (h : Line c count l) : ah a c l < l.length := by
  have hours := h.ours
  revert hours
  generalize (l : List S26) = l
  unfold ah
  induction l with
  | nil => intro h; cases h
  | cons y l ih =>
    intro h
    rw [List.countP_cons, List.length_cons]
    rcases List.mem_cons.1 h with rfl | h
    · have : l.countP (fun x => decide (Ls a x ⟨0, c, 7⟩)) ≤ l.length := List.countP_le_length
      rw [if_neg (by simpa using Ls.irrefl a _)]
      omega
    · have := ih h
      split <;> omega
theorem line_snoc {c count : Int} {l : List S26} (h : Line c count l) {x : S26} (h0 : x.f0 ≠ 0) (h1 : 0 ≤ x.f1) (h2 : x.f1 ≤ 7) (h3 : x.f2 = 7 + count) (hc : 0 ≤ count) : Line c count (l ++ [x]) :=
  ⟨List.mem_append_left _ h.ours, fun y hy => by
    rcases List.mem_append.1 hy with hy | hy
    · exact h.all y hy
    · rw [List.mem_singleton.1 hy]; exact .inr ⟨h0, h1, h2, by omega, by omega⟩⟩
theorem cut_mem {l : List S26} {f : Nat} {x : S26} (h : x ∈ l.take f ++ l.drop (f + 1)) : x ∈ l := by
  rcases List.mem_append.1 h with h | h
  · exact List.mem_of_mem_take h
  · exact List.mem_of_mem_drop h
theorem cut_whole {l : List S26} {f : Nat} (hf : f < l.length) : l = l.take f ++ (l[f] :: l.drop (f + 1)) := by
  rw [← List.drop_eq_getElem_cons hf, List.take_append_drop]
theorem line_cut {c count : Int} {l : List S26} (h : Line c count l) {f : Nat} (hf : f < l.length) (h0 : (l[f]).f0 ≠ 0) : Line c (count + 1) (l.take f ++ l.drop (f + 1)) := by
  refine ⟨?_, fun y hy => ?_⟩
  · have hm := h.ours
    rw [cut_whole hf] at hm
    rcases List.mem_append.1 hm with hm | hm
    · exact List.mem_append_left _ hm
    · rcases List.mem_cons.1 hm with hm | hm
      · rw [← hm] at h0; exact absurd rfl h0
      · exact List.mem_append_right _ hm
  · rcases h.all y (cut_mem hy) with h | h
    · exact .inl h
    · exact .inr ⟨h.1, h.2.1, h.2.2.1, h.2.2.2.1, by omega⟩
theorem ah_cut {a c : Int} {l : List S26} {f : Nat} (hf : f < l.length) (h : Ls a l[f] ⟨0, c, 7⟩) : ah a c (l.take f ++ l.drop (f + 1)) + 1 = ah a c l := by
  unfold ah
  have e : l.countP (fun x => decide (Ls a x ⟨0, c, 7⟩)) = (l.take f ++ (l[f] :: l.drop (f + 1))).countP (fun x => decide (Ls a x ⟨0, c, 7⟩)) := by rw [← cut_whole hf]
  rw [e, List.countP_append, List.countP_append, List.countP_cons, if_pos (by simpa using h)]
  omega


/-- The turn's end: the first one is taken; either it is ours, or it is ahead of ours. -/
theorem cut_told (ps : List S35) (a room : Int) (l : List S26) (id k count : Int) (K : Nat) (h0 : 0 ≤ count) (hb : count < 100000) (hlen : (l.length : Int) ≤ 12) {f : Nat} (hfl : f < l.length) (hz : (l[f]).f0 ≠ 0) :
    remontoirlaw08_TurnServed.j3 (K + 29) ps a room l id k count f false = remontoirlaw08_TurnServed.l0 (K + 28) ps a room (l.take f ++ l.drop (f + 1)) id k (count + 1) := by
  have w : wrap64 ((f : Int) + 1) = (f : Int) + 1 := by unfold wrap64; omega
  have wc : wrap64 (count + 1) = count + 1 := by unfold wrap64; omega
  have e1 : ((f : Int) + 1).toNat = f + 1 := by omega
  have h1 : ([] : List S26).length + (l.take (f : Int).toNat).length < 5864062014805 := by rw [List.length_take, List.length_nil]; omega
  have h2 : (([] : List S26) ++ l.take (f : Int).toNat).length + (l.drop ((f : Int) + 1).toNat).length < 5864062014805 := by rw [List.nil_append, List.length_take, List.length_drop]; omega
  rw [remontoirlaw08_TurnServed.j3, if_neg (by decide), if_pos (by omega), if_pos (by omega), rd_at hfl, if_neg hz, Option.bind_some, if_pos (by omega), Option.bind_some, if_pos h1, Option.bind_some, w, if_pos (by omega), if_pos (by omega), Option.bind_some, if_pos h2, wc, e1, Int.toNat_natCast, List.nil_append]
theorem taken (ps : List S35) (a room c : Int) (hr2 : room ≤ 12) (l : List S26) (id k count : Int) (h0 : 0 ≤ count) (hl : Line c count l) (hlen : (l.length : Int) ≤ room) (hfew : (ah a c l : Int) ≤ room - 1 ∧ (a * c < count → (ah a c l : Int) + (count - a * c) ≤ room - 1)) (hb : count < 100000)
    (onward : ∀ l', Line c (count + 1) l' → (l'.length : Int) ≤ room → Few a c room (count + 1) (ah a c l') → ∃ K, remontoirlaw08_TurnServed.l0 K ps a room l' id k (count + 1) = some true) :
    ∃ K, remontoirlaw08_TurnServed.j2 K ps a room l id k count = some true := by
  obtain ⟨q, hq, hh⟩ := first a l (by omega)
  have e1 : ∀ K, turn_First.f (K + 29) a l = some q := fun K => by
    have := hq (K + 28 - l.length)
    rwa [show K + 28 - l.length + l.length + 1 = K + 29 by omega] at this
  have hne : l ≠ [] := fun e => by have := hl.ours; rw [e] at this; cases this
  rcases hh with ⟨e, _⟩ | hf
  · exact absurd e hne
  obtain ⟨q0, q1, q2, q3⟩ := hf
  obtain ⟨f, rfl⟩ : ∃ f : Nat, q = f := ⟨q.toNat, by omega⟩
  have hfl : f < l.length := by omega
  by_cases hz : (l[f]).f0 = 0
  · refine ⟨0 + 30, ?_⟩
    rw [remontoirlaw08_TurnServed.j2, e1 0, Option.bind_some, if_neg (by omega), decide_eq_false (by omega), remontoirlaw08_TurnServed.j3, if_neg (by decide), if_pos q0, if_pos q1, rd_at hfl, if_pos hz, show (28 : Nat) = 8 + 20 by omega, wakes]
    rfl
  · have hahead : Ls a l[f] ⟨0, c, 7⟩ := by
      obtain ⟨j, hj, e⟩ := List.getElem_of_mem hl.ours
      have h1 := q2 j (by omega) (by omega)
      rw [rd_at hj, rd_at hfl, e] at h1
      rcases hl.all _ (List.getElem_mem hfl) with h2 | h2
      · rw [h2] at hz; exact absurd rfl hz
      · unfold Ls at *
        show T a (l[f]).f1 (l[f]).f2 < T a c 7 ∨ T a (l[f]).f1 (l[f]).f2 = T a c 7 ∧ (l[f]).f0 < 0
        have h3 : ¬ (T a c 7 < T a (l[f]).f1 (l[f]).f2 ∨ T a c 7 = T a (l[f]).f1 (l[f]).f2 ∧ 0 < (l[f]).f0) := h1
        omega
    have hcut := ah_cut (c := c) hfl hahead
    obtain ⟨K, hK⟩ := onward _ (line_cut hl hfl hz) (by rw [List.length_append, List.length_take, List.length_drop]; omega) ⟨by omega, fun h => by
      by_cases h' : a * c < count
      · have := hfew.2 h'; omega
      · omega⟩
    refine ⟨K + 30, ?_⟩
    rw [remontoirlaw08_TurnServed.j2, e1 K, Option.bind_some, if_neg (by omega), decide_eq_false (by omega), cut_told ps a room l id k count K h0 hb (by omega) hfl hz]
    exact at_rounds (fun k' => (remontoirlaw08_TurnServed.mono_l k').1 ps a room _ id k (count + 1)) (by omega) hK

/-- As many come as there is room for, or up to a pause. -/
theorem filled (ps : List S35) (hps : ps.length ≤ 100000000000000) (hw : ∀ p ∈ ps, 0 ≤ p.f0 ∧ p.f0 ≤ 255) (a room c : Int) (ha : 1 ≤ a) (ha2 : a ≤ 12) (hr2 : room ≤ 12) (hc : 0 ≤ c) (hc7 : c ≤ 7) (count : Int) (h0 : 0 ≤ count) (hb : count < 1000)
    (onward : ∀ (l' : List S26) (id k : Int), Line c (count + 1) l' → (l'.length : Int) ≤ room → Few a c room (count + 1) (ah a c l') → 0 ≤ id → id ≤ 12 * (count + 1) → 0 ≤ k → k ≤ ps.length → ∃ K, remontoirlaw08_TurnServed.l0 K ps a room l' id k (count + 1) = some true) :
    ∀ (d : Nat) (l : List S26) (id k : Int), room - l.length = d → Line c count l → (a * c < count → (ah a c l : Int) + (count - a * c) ≤ room - 1) → 0 ≤ id → id + d ≤ 12 * count + 12 → 0 ≤ k → k ≤ ps.length →
      ∃ K, remontoirlaw08_TurnServed.l1 K ps a room l id k count = some true := by
  intro d
  induction d with
  | zero =>
    intro l id k hd hl hf i0 i1 k0 k1
    have hlt := ah_lt (a := a) hl
    obtain ⟨K, hK⟩ := taken ps a room c hr2 l id k count h0 hl (by omega) ⟨by omega, hf⟩ (by omega) (fun l' h1 h2 h3 => onward l' id k h1 h2 h3 i0 (by omega) k0 k1)
    refine ⟨K + 1, ?_⟩
    rw [remontoirlaw08_TurnServed.l1, if_neg (by omega)]
    exact hK
  | succ d ih =>
    intro l id k hd hl hf i0 i1 k0 k1
    have hlt := ah_lt (a := a) hl
    have wid : wrap64 (id + 1) = id + 1 := by unfold wrap64; omega
    have wneg : wrap64 (-(id + 1)) = -(id + 1) := by unfold wrap64; omega
    have wc : wrap64 (7 + count) = 7 + count := by unfold wrap64; omega
    have wk : wrap64 (k + 1) = k + 1 := by unfold wrap64; omega
    have hlen : l.length < 5864062014805 := by omega
    have push : ∀ (who cl : Int) (k' : Int), who ≠ 0 → 0 ≤ cl → cl ≤ 7 → 0 ≤ k' → k' ≤ ps.length → ∃ K, remontoirlaw08_TurnServed.l1 K ps a room (l ++ [⟨who, cl, 7 + count⟩]) (id + 1) k' count = some true := by
      intro who cl k' hwho c0 c7 k0' k1'
      refine ih _ (id + 1) k' (by rw [List.length_append]; simp; omega) (line_snoc hl hwho c0 c7 rfl h0) (fun h => ?_) (by omega) (by omega) k0' k1'
      rw [(ah_snoc a c l _).2 (come_behind ha ha2 hc hc7 c0 c7 rfl h (by omega))]
      exact hf h
    by_cases hk : k < (ps.length : Int)
    · have hp := hw (rd_T35 ps k) (by
        unfold rd_T35
        rw [List.getD_eq_getElem?_getD, List.getElem?_eq_getElem (show k.toNat < ps.length by omega)]
        exact List.getElem_mem _)
      by_cases hz : Int.tmod (rd_T35 ps k).f1 4 = 0
      · obtain ⟨K, hK⟩ := taken ps a room c hr2 l id (k + 1) count h0 hl (by omega) ⟨by omega, hf⟩ (by omega) (fun l' h1 h2 h3 => onward l' id (k + 1) h1 h2 h3 i0 (by omega) (by omega) (by omega))
        refine ⟨K + 1, ?_⟩
        rw [remontoirlaw08_TurnServed.l1, if_pos (by omega), if_pos hk, if_pos k0, if_pos hz, wk]
        exact hK
      · have hm : 0 ≤ Int.tmod (wrap64 (rd_T35 ps k).f0) 8 ∧ Int.tmod (wrap64 (rd_T35 ps k).f0) 8 ≤ 7 := by
          rw [show wrap64 (rd_T35 ps k).f0 = (rd_T35 ps k).f0 by unfold wrap64; omega, Int.tmod_eq_emod_of_nonneg (by omega)]
          omega
        by_cases he : Int.tmod (id + 1) 2 = 0
        · obtain ⟨K, hK⟩ := push (-(id + 1)) _ (k + 1) (by omega) hm.1 hm.2 (by omega) (by omega)
          refine ⟨K + 1, ?_⟩
          rw [remontoirlaw08_TurnServed.l1, if_pos (by omega), if_pos hk, if_pos k0, if_neg hz, wid, if_pos he, if_pos hlen, wneg, wc, wk]
          exact hK
        · obtain ⟨K, hK⟩ := push (id + 1) _ (k + 1) (by omega) hm.1 hm.2 (by omega) (by omega)
          refine ⟨K + 1, ?_⟩
          rw [remontoirlaw08_TurnServed.l1, if_pos (by omega), if_pos hk, if_pos k0, if_neg hz, wid, if_neg he, if_pos hlen, wc, wk]
          exact hK
    · by_cases he : Int.tmod (id + 1) 2 = 0
      · obtain ⟨K, hK⟩ := push (-(id + 1)) 0 k (by omega) (by omega) (by omega) k0 k1
        refine ⟨K + 1, ?_⟩
        rw [remontoirlaw08_TurnServed.l1, if_pos (by omega), if_neg hk, wid, if_pos he, if_pos hlen, wneg, wc]
        exact hK
      · obtain ⟨K, hK⟩ := push (id + 1) 0 k (by omega) (by omega) (by omega) k0 k1
        refine ⟨K + 1, ?_⟩
        rw [remontoirlaw08_TurnServed.l1, if_pos (by omega), if_neg hk, wid, if_neg he, if_pos hlen, wc]
        exact hK

theorem served_from (ps : List S35) (hps : ps.length ≤ 100000000000000) (hw : ∀ p ∈ ps, 0 ≤ p.f0 ∧ p.f0 ≤ 255) (a room c : Int) (ha : 1 ≤ a) (ha2 : a ≤ 12) (hr : 1 ≤ room) (hr2 : room ≤ 12) (hc : 0 ≤ c) (hc7 : c ≤ 7) :
    ∀ (R : Nat) (l : List S26) (id k count : Int), 0 ≤ count → 8 * a + room - count = R → Line c count l → (l.length : Int) ≤ room → Few a c room count (ah a c l) → 0 ≤ id → id ≤ 12 * count → 0 ≤ k → k ≤ ps.length →
      ∃ K, remontoirlaw08_TurnServed.l0 K ps a room l id k count = some true := by
  have hac : a * c ≤ a * 7 := Int.mul_le_mul_of_nonneg_left hc7 (by omega)
  intro R
  induction R with
  | zero =>
    intro l id k count h0 hd hl hlen hf i0 i1 k0 k1
    have := hf.2 (by omega)
    omega
  | succ R ih =>
    intro l id k count h0 hd hl hlen hf i0 i1 k0 k1
    obtain ⟨K, hK⟩ := filled ps hps hw a room c ha ha2 hr2 hc hc7 count h0 (by omega) (fun l' id k h1 h2 h3 h4 h5 h6 h7 => ih l' id k (count + 1) (by omega) (by omega) h1 h2 h3 h4 h5 h6 h7) (room - l.length).toNat l id k (by omega) hl hf.2 i0 (by omega) k0 k1
    refine ⟨K + 1, ?_⟩
    have hbound : mx 1 (mn a 1000) * 8 + mx 0 (mn room 1000) = 8 * a + room := by
      unfold mx mn
      repeat' split
      all_goals omega
    rw [remontoirlaw08_TurnServed.l0, Core.bound, Option.bind_some, hbound, if_pos (by omega)]
    exact hK

theorem served (n0 n1 mine : Int) (h0 : 0 ≤ n0 ∧ n0 ≤ 65535) (h1 : 0 ≤ n1 ∧ n1 ≤ 65535) (h2 : 0 ≤ mine ∧ mine ≤ 255) (ps : List S35) (hps : ps.length ≤ 100000000000000) (hw : ∀ p ∈ ps, 0 ≤ p.f0 ∧ p.f0 ≤ 255) : ∃ k, remontoirlaw08_TurnServed.f k n0 n1 mine ps = some true := by
  have w : ∀ x : Int, 0 ≤ x → x ≤ 10000000 → wrap64 x = x := fun x h1 h2 => by unfold wrap64; omega
  unfold remontoirlaw08_TurnServed.f
  rw [w n0 (by omega) (by omega), w n1 (by omega) (by omega), w mine (by omega) (by omega)]
  rw [Int.tmod_eq_emod_of_nonneg (show 0 ≤ n0 by omega), Int.tmod_eq_emod_of_nonneg (show 0 ≤ n1 by omega), Int.tmod_eq_emod_of_nonneg (show 0 ≤ mine by omega)]
  rw [w (1 + n0 % 12) (by omega) (by omega), w (1 + n1 % 12) (by omega) (by omega)]
  have ha : 0 ≤ 8 * (1 + n0 % 12) + (1 + n1 % 12) - 0 := by omega
  have hac := Int.mul_nonneg (show 0 ≤ 1 + n0 % 12 by omega) (show 0 ≤ mine % 8 by omega)
  have e : ah (1 + n0 % 12) (mine % 8) [⟨0, mine % 8, 7⟩] = 0 := by
    unfold ah
    rw [List.countP_cons, if_neg (by simpa using Ls.irrefl _ _)]
    rfl
  refine served_from ps hps hw (1 + n0 % 12) (1 + n1 % 12) (mine % 8) (by omega) (by omega) (by omega) (by omega) (by omega) (by omega) (8 * (1 + n0 % 12) + (1 + n1 % 12) - 0).toNat _ 0 0 0 (by omega) (by omega)
    ⟨List.mem_singleton.2 rfl, fun x hx => .inl (List.mem_singleton.1 hx)⟩ (by simp; omega) ⟨by rw [e]; omega, fun h => by omega⟩ (by omega) (by omega) (by omega) (by omega)
def two (ns : List Int) : S35 := ⟨ns.headD 0, ns.tail.headD 0⟩
theorem two_K (W : World) (ns : List Int) (h : Fits [.u8, .u8] ns) : k35.K W (two ns) (ints [.u8, .u8] ns) ∧ 0 ≤ (two ns).f0 ∧ (two ns).f0 ≤ 255 := by
  obtain ⟨a, r, rfl, wa, h⟩ := fits_cons h
  obtain ⟨b, r, rfl, _, h⟩ := fits_cons h
  obtain rfl := fits_nil h
  exact ⟨k35_mk W (two [a, b]), Go.bounds_u8 wa⟩
set_option linter.unusedVariables false
theorem calls (W : World) (a0_0 : Int) (w0_0 : (Lit.int .u16 a0_0).wf = true) (a0_1 : Int) (w0_1 : (Lit.int .u16 a0_1).wf = true) (a1 : Int) (w1 : (Lit.int .u8 a1).wf = true) (a2 : Option Addr) (c2 : Nat) (l2 : List (List Int)) (r2 : RowsOf W [.u8, .u8] a2 l2) (x2 : l2.length ≤ c2) (m2 : c2 ≤ maxLen) (y2 : l2.length * 2 ≤ 140737488351232) :
    Calls Try.prog 5 #[.agg #[.int .u16 a0_0, .int .u16 a0_1], .int .u8 a1, .slice a2 l2.length c2] W fun e w' => e = .returned (.bool true) ∧ Below W.heap.size W w' := by
  obtain ⟨k, hk⟩ := served a0_0 a0_1 a1 (Go.bounds_u16 w0_0) (Go.bounds_u16 w0_1) (Go.bounds_u8 w1) (l2.map two) (by rw [List.length_map]; omega) (fun p hp => by
    obtain ⟨ns, hns, rfl⟩ := List.mem_map.1 hp
    exact (two_K W ns (r2.2 ns hns)).2)
  have h := remontoirlaw08_TurnServed.calls k a0_0 a0_1 a1 a2 c2 (l2.map two) true W (kd_rows (d := k35) two rfl (fun ns hns => (two_K W ns hns).1) r2 (by omega)) (by simpa using x2) hk
  rw [List.length_map] at h
  exact h
end Go.Proofs.Ytdnonlapiheenaa.CallTurnServed
