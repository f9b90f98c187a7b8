/- The queue's functions as calls, at a queue in memory and at nil. Conditions: the queue lies in memory as told. -/
import Derived.Test.YtfkebbkfmchnaaaIdx
namespace Go.Proofs.Ytfkebbkfmchnaaa.Ln
open Go.RowKit Go.Proofs.Ytfkebbkfmchnaaa.PBase Go.Proofs.Ytfkebbkfmchnaaa.Cat Go.Proofs.Ytfkebbkfmchnaaa.Heap Go.Proofs.YtfkebbkfmchnaaaW.PrintWords Go.Proofs.YtfkebbkfmchnaaaW.PrintLast Go.Proofs.YtfkebbkfmchnaaaW.PrintMore
theorem At.refl (W : World) (v : Value) : At W v v := .inl rfl
theorem At.trans {W W1 : World} {v v1 v2 : Value} (h : At W v v1) (k : At W1 v1 v2) (hs : W.heap.size ≤ W1.heap.size) : At W v v2 := by
  rcases k with k | ⟨b, k, hb⟩
  · rcases h with h | ⟨c, h, hc⟩
    · exact .inl (k.trans h)
    · exact .inr ⟨c, k.trans h, hc⟩
  · exact .inr ⟨b, k, Nat.le_trans hs hb⟩
/-- Where a call leaves a queue. -/
def QGo (W : World) (base B : Nat) (v : Value) (w' : World) (ag rm ct : Int) (L : List S77) : Prop := ∃ v', QS w' base B ag v' rm ct L ∧ Fr (QF B v) W w' ∧ At W v v'
theorem QGo.trans {W W1 W2 : World} {base B : Nat} {v : Value} {ag rm ct ag2 rm2 ct2 : Int} {L L2 : List S77} (h : QGo W base B v W1 ag rm ct L) (k : ∀ v1, QS W1 base B ag v1 rm ct L → QGo W1 base B v1 W2 ag2 rm2 ct2 L2) : QGo W base B v W2 ag2 rm2 ct2 L2 := by
  obtain ⟨v1, h1, h2, h3⟩ := h
  obtain ⟨v2, k1, k2, k3⟩ := k v1 h1
  exact ⟨v2, k1, Fr.then_ h2 k2 (qf_at h3), h3.trans k3 h2.size⟩
theorem QS.go {W w' : World} {base B : Nat} {ag rm ct : Int} {v : Value} {L : List S77} (h : QS W base B ag v rm ct L) (hb : Below W.heap.size W w') : QGo W base B v w' ag rm ct L := ⟨v, h.step hb, Fr.of_below hb, At.refl _ _⟩
set_option maxHeartbeats 4000000 in
set_option maxRecDepth 100000 in
theorem new_bad (a r : Int) (W : World) (h : ¬ ((1 ≤ a ∧ a ≤ 1000) ∧ 0 ≤ r ∧ r ≤ 1000)) : Calls Try.prog 33 #[.int .i64 a, .int .i64 r] W fun e w' => e = .returned (.pointer none) ∧ Below W.heap.size W w' := by
  by_cases h1 : a < 1
  · go_enter Try.func33, Try.ntmps33
    go_wp2
    go_ret
    exact ⟨rfl, Below.refl _ _⟩
  · by_cases h2 : 1000 < a
    · go_enter Try.func33, Try.ntmps33
      go_wp2
      go_ret
      exact ⟨rfl, Below.refl _ _⟩
    · by_cases h3 : r < 0
      · go_enter Try.func33, Try.ntmps33
        go_wp2
        go_ret
        exact ⟨rfl, Below.refl _ _⟩
      · have h4 : 1000 < r := by omega
        go_enter Try.func33, Try.ntmps33
        go_wp2
        go_ret
        exact ⟨rfl, Below.refl _ _⟩
set_option maxHeartbeats 4000000 in
set_option maxRecDepth 100000 in
theorem new_good (a r : Int) (W : World) (h : (1 ≤ a ∧ a ≤ 1000) ∧ 0 ≤ r ∧ r ≤ 1000) : Calls Try.prog 33 #[.int .i64 a, .int .i64 r] W fun e w' => e = .returned (.pointer (some ⟨W.heap.size, 0, none⟩)) ∧ Below W.heap.size W w' ∧ ∃ v, QS w' W.heap.size W.heap.size a v r 0 [] := by
  have h1 : ¬ a < 1 := by omega
  have h2 : ¬ 1000 < a := by omega
  have h3 : ¬ r < 0 := by omega
  have h4 : ¬ 1000 < r := by omega
  go_enter Try.func33, Try.ntmps33
  go_wp2
  go_ret
  exact ⟨rfl, below_alloc (Below.refl _ _) _, .slice none 0 0, blk_new _ _, Nat.le_refl _, own_of_R (xs := []) (Kd.R_nil _ _ _ _ (fun _ => True))⟩
set_option maxHeartbeats 4000000 in
set_option maxRecDepth 100000 in
theorem qlen_nil (W : World) : Calls Try.prog 58 #[.pointer none] W fun e w' => e = .returned (.int .i64 0) ∧ Below W.heap.size W w' := by
  go_enter Try.func58, Try.ntmps58
  go_wp2
  go_ret
  exact ⟨rfl, Below.refl _ _⟩
set_option maxHeartbeats 4000000 in
set_option maxRecDepth 100000 in
theorem qlen_calls {W : World} {base B : Nat} {ag rm ct : Int} {v : Value} {L : List S77} (h : QS W base B ag v rm ct L) : Calls Try.prog 58 #[.pointer (some ⟨B, 0, none⟩)] W fun e w' => e = .returned (.int .i64 (L.length : Int)) ∧ Below W.heap.size W w' := by
  go_enter Try.func58, Try.ntmps58
  go_wp2_with (go_at_call 72; refine (len_calls h).mono ?_; rintro e w8 ⟨rfl, n8, rfl⟩)
  go_ret
  exact ⟨rfl, pw_below_drewN (Below.refl _ _) n8⟩
set_option maxHeartbeats 4000000 in
set_option maxRecDepth 100000 in
theorem count_nil (W : World) : Calls Try.prog 56 #[.pointer none] W fun e w' => e = .returned (.int .i64 0) ∧ Below W.heap.size W w' := by
  go_enter Try.func56, Try.ntmps56
  go_wp2
  go_ret
  exact ⟨rfl, Below.refl _ _⟩
set_option maxHeartbeats 4000000 in
set_option maxRecDepth 100000 in
theorem count_calls {W : World} {base B : Nat} {ag rm ct : Int} {v : Value} {L : List S77} (h : QS W base B ag v rm ct L) : Calls Try.prog 56 #[.pointer (some ⟨B, 0, none⟩)] W fun e w' => e = .returned (.int .i64 ct) ∧ Below W.heap.size W w' := by
  have c3 : W.cell? ⟨B, 3, none⟩ = some (.int .i64 ct) := h.cell 3
  go_enter Try.func56, Try.ntmps56
  go_wp2
  go_ret
  exact ⟨rfl, Below.refl _ _⟩
set_option maxHeartbeats 4000000 in
set_option maxRecDepth 100000 in
theorem drop_nil (id : Int) (W : World) : Calls Try.prog 41 #[.pointer none, .int .i64 id] W fun e w' => e = .returned (.bool false) ∧ Below W.heap.size W w' := by
  go_enter Try.func41, Try.ntmps41
  go_wp2
  go_ret
  exact ⟨rfl, Below.refl _ _⟩
/-- What Drop leaves. -/
def dropL (ag : Int) (L : List S77) (id : Int) : List S77 := if 0 ≤ place L id then removeL ag L (place L id).toNat else L
set_option maxHeartbeats 4000000 in
set_option maxRecDepth 100000 in
theorem drop_calls {W : World} {base B : Nat} {ag rm ct : Int} {v : Value} {L : List S77} (h : QS W base B ag v rm ct L) (id : Int) (hl : L.length ≤ 100000) :
    Calls Try.prog 41 #[.pointer (some ⟨B, 0, none⟩), .int .i64 id] W fun e w' => e = .returned (.bool (decide (0 ≤ place L id))) ∧ QGo W base B v w' ag rm ct (dropL ag L id) := by
  rcases place_cases L id with ⟨hp, _⟩ | ⟨k, hk, hp, _⟩
  · have e1 : dropL ag L id = L := by unfold dropL; rw [hp]; exact if_neg (by decide)
    rw [e1, hp]
    have hf := find_calls h id
    rw [hp] at hf
    go_enter Try.func41, Try.ntmps41
    go_wp2_with (go_at_call 57; refine hf.mono ?_; rintro e w8 ⟨rfl, hb8⟩)
    go_ret
    exact ⟨rfl, h.go hb8⟩
  · have e1 : dropL ag L id = removeL ag L k := by unfold dropL; rw [hp, if_pos (by omega), Int.toNat_natCast]
    have hf := find_calls h id
    rw [e1, hp, decide_eq_true (show 0 ≤ (k : Int) by omega)]
    rw [hp] at hf
    have h0 : ¬ (k : Int) < 0 := by omega
    go_enter Try.func41, Try.ntmps41
    go_wp2_with (first
      | (go_at_call 57; refine hf.mono ?_; rintro e w8 ⟨rfl, hb8⟩; clear hf)
      | (go_at_call 60; refine (heap_remove_calls (h.step hb8) k hk hl).mono ?_; rintro e w9 ⟨⟨q, rfl⟩, v9, hQ9, hF9, hA9⟩))
    go_ret
    exact ⟨rfl, v9, hQ9, Fr.then_ (Fr.of_below hb8) hF9 (fun _ h => .inl h), .inl hA9⟩
/-- What Put answers. -/
def putE (L : List S77) (rm id cl : Int) : Int := if cl < 0 ∨ 8 ≤ cl then 1 else if 0 ≤ place L id then 8 else if rm ≤ (L.length : Int) then 10 else 0
/-- What Put leaves. -/
def putL (ag rm ct : Int) (L : List S77) (id cl : Int) : List S77 := if putE L rm id cl = 0 then pushL ag L ⟨id, cl, ct⟩ else L
set_option maxHeartbeats 4000000 in
set_option maxRecDepth 100000 in
theorem put_nil (id cl : Int) (W : World) : Calls Try.prog 35 #[.pointer none, .int .i64 id, .int .i64 cl] W fun e w' => e = .returned (.int .i64 1) ∧ Below W.heap.size W w' := by
  go_enter Try.func35, Try.ntmps35
  go_wp2
  go_ret
  exact ⟨rfl, Below.refl _ _⟩
set_option maxHeartbeats 4000000 in
set_option maxRecDepth 100000 in
theorem put_calls {W : World} {base B : Nat} {ag rm ct : Int} {v : Value} {L : List S77} (h : QS W base B ag v rm ct L) (id cl : Int) (hl : L.length ≤ 90000) :
    Calls Try.prog 35 #[.pointer (some ⟨B, 0, none⟩), .int .i64 id, .int .i64 cl] W fun e w' => e = .returned (.int .i64 (putE L rm id cl)) ∧ QGo W base B v w' ag rm ct (putL ag rm ct L id cl) := by
  unfold putL
  by_cases c1 : cl < 0
  · have e1 : putE L rm id cl = 1 := by unfold putE; exact if_pos (.inl c1)
    rw [e1, if_neg (by decide)]
    go_enter Try.func35, Try.ntmps35
    go_wp2
    go_ret
    exact ⟨rfl, h.go (Below.refl _ _)⟩
  by_cases c2 : 8 ≤ cl
  · have e1 : putE L rm id cl = 1 := by unfold putE; exact if_pos (.inr c2)
    rw [e1, if_neg (by decide)]
    go_enter Try.func35, Try.ntmps35
    go_wp2
    go_ret
    exact ⟨rfl, h.go (Below.refl _ _)⟩
  have c3 : ¬ (cl < 0 ∨ 8 ≤ cl) := by omega
  have hf := find_calls h id
  by_cases c4 : 0 ≤ place L id
  · have e1 : putE L rm id cl = 8 := by unfold putE; rw [if_neg c3]; exact if_pos c4
    rw [e1, if_neg (by decide)]
    generalize place L id = p at hf c4
    go_enter Try.func35, Try.ntmps35
    go_wp2_with (go_at_call 57; refine hf.mono ?_; rintro e w8 ⟨rfl, hb8⟩)
    go_ret
    exact ⟨rfl, h.go hb8⟩
  by_cases c5 : rm ≤ (L.length : Int)
  · have e1 : putE L rm id cl = 10 := by unfold putE; rw [if_neg c3, if_neg c4]; exact if_pos c5
    rw [e1, if_neg (by decide)]
    generalize place L id = p at hf c4
    obtain ⟨Q, hQe⟩ : ∃ Q : Int, (L.length : Int) = Q := ⟨_, rfl⟩
    have HE := Aside0.mk hQe
    rw [hQe] at c5
    clear hQe
    go_enter Try.func35, Try.ntmps35
    go_wp2_with (go_at_call 57; refine hf.mono ?_; rintro e w8 ⟨rfl, hb8⟩)
    have h8 := Aside0.mk (h.step hb8)
    have hr8 : w8.cell? ⟨B, 2, none⟩ = some (.int .i64 rm) := h8.out.cell 2
    have hlt8 := h8.out.lt
    go_region_held3 (fun w' => w'.cell? ⟨B, 2, none⟩ = some (.int .i64 rm)) (first | go_keep | exact (hb9.cell (p := ⟨B, 2, none⟩) (by assumption)).trans (by assumption))
      ((go_at_call 58; refine (qlen_calls (h8.out.step (below_drew1 (Below.refl _ _)))).mono ?_; rintro e w9 ⟨rfl, hb9⟩; rw [HE.out]))
    go_wp2
    go_ret
    exact ⟨rfl, h.go (below_step (below_drew1 hb8) hb9)⟩
  · have e1 : putE L rm id cl = 0 := by unfold putE; rw [if_neg c3, if_neg c4]; exact if_neg c5
    rw [e1, if_pos rfl]
    generalize place L id = p at hf c4
    obtain ⟨Q, hQe⟩ : ∃ Q : Int, (L.length : Int) = Q := ⟨_, rfl⟩
    have HE := Aside0.mk hQe
    rw [hQe] at c5
    clear hQe
    go_enter Try.func35, Try.ntmps35
    go_wp2_with (go_at_call 57; refine hf.mono ?_; rintro e w8 ⟨rfl, hb8⟩)
    have h8 := Aside0.mk (h.step hb8)
    have hr8 : w8.cell? ⟨B, 2, none⟩ = some (.int .i64 rm) := h8.out.cell 2
    have hlt8 := h8.out.lt
    go_region_held3 (fun w' => w'.cell? ⟨B, 2, none⟩ = some (.int .i64 rm)) (first | go_keep | exact (hb9.cell (p := ⟨B, 2, none⟩) (by assumption)).trans (by assumption))
      ((go_at_call 58; refine (qlen_calls (h8.out.step (below_drew1 (Below.refl _ _)))).mono ?_; rintro e w9 ⟨rfl, hb9⟩; rw [HE.out]))
    have h9 := Aside0.mk ((h8.out.step (below_drew1 (Below.refl _ _))).step hb9)
    have hr9 : w9.cell? ⟨B, 3, none⟩ = some (.int .i64 ct) := h9.out.cell 3
    go_wp2_with (go_at_call 59; refine (heap_push_calls h9.out ⟨id, cl, ct⟩ (by omega)).mono ?_; rintro e w7 ⟨rfl, v7, hQ7, hF7, hA7⟩)
    go_ret
    have hbb := below_step (below_drew1 hb8) hb9
    exact ⟨rfl, v7, hQ7, Fr.then_ (Fr.of_below hbb) hF7 (fun _ h => .inl h), (At.refl W v).trans hA7 hbb.size⟩
/-- A job, and how it is told. -/
def wv (x : S77) : Value := .agg #[.int .i64 x.f0, .int .i64 x.f1, .int .i64 x.f2]
end Go.Proofs.Ytfkebbkfmchnaaa.Ln
