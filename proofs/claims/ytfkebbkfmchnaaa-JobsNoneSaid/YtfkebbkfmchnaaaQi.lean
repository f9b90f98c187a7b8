/- The queue's functions as calls, for a law's walk: what is kept besides the queue is told by a set X of blocks. Conditions: the queue lies in memory as told. -/
import Derived.Test.YtfkebbkfmchnaaaSrt
import Derived.Test.YtfkebbkfmchnaaaPl
namespace Go.Proofs.Ytfkebbkfmchnaaa.Ln
open Go.RowKit Go.Proofs.Ytfkebbkfmchnaaa.PBase Go.Proofs.Ytfkebbkfmchnaaa.Cat Go.Proofs.Ytfkebbkfmchnaaa.Heap Go.Proofs.YtfkebbkfmchnaaaW.PrintWords Go.Proofs.YtfkebbkfmchnaaaW.PrintLast Go.Proofs.YtfkebbkfmchnaaaW.PrintMore
/-- A queue, whose blocks are none of X. -/
structure QI (N : Nat) (X : Nat → Prop) (W : World) (B : Nat) (ag rm ct : Int) (L : List S77) : Prop where
  ex : ∃ v, QS W N B ag v rm ct L ∧ ∀ k, X k → ¬ QF B v k
  xs : ∀ k, X k → k < W.heap.size
/-- What may change. -/
abbrev KX (N : Nat) (X : Nat → Prop) (k : Nat) : Prop := N ≤ k ∧ ¬ X k
theorem Fr.trans {F : Nat → Prop} {W W1 W2 : World} (h : Fr F W W1) (k : Fr F W1 W2) : Fr F W W2 := Fr.then_ h k (fun _ h => .inl h)
theorem Fr.weak {F F2 : Nat → Prop} {W W1 : World} (h : Fr F W W1) (hF : ∀ k, F k → F2 k) : Fr F2 W W1 := ⟨h.os, h.tape, h.out, h.size, fun k hk hn => h.blk k hk (fun e => hn (hF k e))⟩
theorem qf_base {W : World} {N B : Nat} {ag rm ct : Int} {v : Value} {L : List S77} (h : QS W N B ag v rm ct L) (k : Nat) (e : QF B v k) : N ≤ k := by
  rcases e with e | e
  · exact e ▸ h.lb
  · obtain ⟨_, h2⟩ := h.own
    rcases h2 with ⟨h2, _⟩ | ⟨g, cap, cells, h2, hgb, _⟩
    · rw [h2] at e; cases e
    · rw [h2] at e
      have : g = k := by simpa [Value.ownBlock] using e
      exact this ▸ hgb
theorem qf_lt {W : World} {N B : Nat} {ag rm ct : Int} {v : Value} {L : List S77} (h : QS W N B ag v rm ct L) (k : Nat) (e : QF B v k) : k < W.heap.size := by
  rcases e with e | e
  · exact e ▸ h.lt
  · exact own_lt h.own _ e
theorem go_I {N : Nat} {X : Nat → Prop} {W w' : World} {B : Nat} {ag rm ct ag2 rm2 ct2 : Int} {L L2 : List S77} {v : Value} (h : QS W N B ag v rm ct L) (hX : ∀ k, X k → ¬ QF B v k) (xs : ∀ k, X k → k < W.heap.size) (hg : QGo W N B v w' ag2 rm2 ct2 L2) : QI N X w' B ag2 rm2 ct2 L2 ∧ Fr (KX N X) W w' := by
  obtain ⟨v', h1, h2, h3⟩ := hg
  refine ⟨⟨⟨v', h1, fun k hk e => ?_⟩, fun k hk => Nat.lt_of_lt_of_le (xs k hk) h2.size⟩, h2.weak (fun k e => ⟨qf_base h k e, fun hx => hX k hx e⟩)⟩
  rcases qf_at h3 k e with e | e
  · exact hX k hk e
  · have := xs k hk; omega
theorem QI.more {N : Nat} {X Y : Nat → Prop} {W w' : World} {B : Nat} {ag rm ct : Int} {L : List S77} (h : QI N X W B ag rm ct L) (hb : Below W.heap.size W w') (hY : ∀ k, Y k → W.heap.size ≤ k ∧ k < w'.heap.size) : QI N (fun k => X k ∨ Y k) w' B ag rm ct L := by
  obtain ⟨⟨v, h1, h2⟩, h3⟩ := h
  refine ⟨⟨v, h1.step hb, fun k hk e => ?_⟩, fun k hk => ?_⟩
  · rcases hk with hk | hk
    · exact h2 k hk e
    · have := qf_lt h1 k e
      have := (hY k hk).1
      omega
  · rcases hk with hk | hk
    · exact Nat.lt_of_lt_of_le (h3 k hk) hb.size
    · exact (hY k hk).2
theorem QI.step {N : Nat} {X : Nat → Prop} {W w' : World} {B : Nat} {ag rm ct : Int} {L : List S77} (h : QI N X W B ag rm ct L) (hb : Below W.heap.size W w') : QI N X w' B ag rm ct L := by
  obtain ⟨⟨v, h1, h2⟩, h3⟩ := h
  exact ⟨⟨v, h1.step hb, h2⟩, fun k hk => Nat.lt_of_lt_of_le (h3 k hk) hb.size⟩
theorem QI.keep {N : Nat} {X : Nat → Prop} {W w' : World} {B : Nat} {ag rm ct : Int} {L : List S77} (h : QI N X W B ag rm ct L) (hb : Fr X W w') : QI N X w' B ag rm ct L := by
  obtain ⟨⟨v, h1, h2⟩, h3⟩ := h
  exact ⟨⟨v, h1.keep hb h2, h2⟩, fun k hk => Nat.lt_of_lt_of_le (h3 k hk) hb.size⟩
theorem QI.base_le {N : Nat} {X : Nat → Prop} {W : World} {B : Nat} {ag rm ct : Int} {L : List S77} (h : QI N X W B ag rm ct L) : N ≤ W.heap.size := by
  obtain ⟨⟨v, h1, h2⟩, h3⟩ := h
  exact h1.base_le
theorem Fr.of_b {N : Nat} {X : Nat → Prop} {W w' : World} (hb : Below W.heap.size W w') : Fr (KX N X) W w' := Fr.of_below hb
theorem new_I (a r : Int) (N : Nat) (W : World) (hN : N ≤ W.heap.size) (h : (1 ≤ a ∧ a ≤ 1000) ∧ 0 ≤ r ∧ r ≤ 1000) : Calls Try.prog 33 #[.int .i64 a, .int .i64 r] W fun e w' => ∃ B, e = .returned (.pointer (some ⟨B, 0, none⟩)) ∧ Below W.heap.size W w' ∧ QI N (fun _ => False) w' B a r 0 [] := by
  refine (new_good a r W h).mono ?_
  rintro e w' ⟨rfl, hb, v, h1, h2, h3⟩
  refine ⟨_, rfl, hb, ⟨v, ⟨h1, hN, ?_⟩, fun _ h => h.elim⟩, fun _ h => h.elim⟩
  obtain ⟨k1, k2⟩ := h3
  refine ⟨k1, ?_⟩
  rcases k2 with k2 | ⟨g, cap, cells, rfl, hgb, hr⟩
  · exact .inl k2
  · exact .inr ⟨g, cap, cells, rfl, Nat.le_trans hN hgb, hr⟩
section
variable {N : Nat} {X : Nat → Prop} {W : World} {B : Nat} {ag rm ct : Int} {L : List S77}
theorem len_I (h : QI N X W B ag rm ct L) (n : Int) (hn : (L.length : Int) = n) : Calls Try.prog 58 #[.pointer (some ⟨B, 0, none⟩)] W fun e w' => e = .returned (.int .i64 n) ∧ QI N X w' B ag rm ct L ∧ Fr (KX N X) W w' := by
  obtain ⟨⟨v, h1, h2⟩, h3⟩ := h
  subst hn
  refine (qlen_calls h1).mono ?_
  rintro e w' ⟨rfl, hb⟩
  exact ⟨rfl, go_I h1 h2 h3 (h1.go hb)⟩
theorem count_I (h : QI N X W B ag rm ct L) : Calls Try.prog 56 #[.pointer (some ⟨B, 0, none⟩)] W fun e w' => e = .returned (.int .i64 ct) ∧ QI N X w' B ag rm ct L ∧ Fr (KX N X) W w' := by
  obtain ⟨⟨v, h1, h2⟩, h3⟩ := h
  refine (count_calls h1).mono ?_
  rintro e w' ⟨rfl, hb⟩
  exact ⟨rfl, go_I h1 h2 h3 (h1.go hb)⟩
theorem put_I (h : QI N X W B ag rm ct L) (id cl : Int) (hl : L.length ≤ 90000) (n : Int) (M : List S77) (hn : putE L rm id cl = n) (hM : putL ag rm ct L id cl = M) : Calls Try.prog 35 #[.pointer (some ⟨B, 0, none⟩), .int .i64 id, .int .i64 cl] W fun e w' => e = .returned (.int .i64 n) ∧ QI N X w' B ag rm ct M ∧ Fr (KX N X) W w' := by
  obtain ⟨⟨v, h1, h2⟩, h3⟩ := h
  subst hn hM
  refine (put_calls h1 id cl hl).mono ?_
  rintro e w' ⟨rfl, hb⟩
  exact ⟨rfl, go_I h1 h2 h3 hb⟩
theorem drop_I (h : QI N X W B ag rm ct L) (id : Int) (hl : L.length ≤ 90000) (n : Bool) (M : List S77) (hn : decide (0 ≤ place L id) = n) (hM : dropL ag L id = M) : Calls Try.prog 41 #[.pointer (some ⟨B, 0, none⟩), .int .i64 id] W fun e w' => e = .returned (.bool n) ∧ QI N X w' B ag rm ct M ∧ Fr (KX N X) W w' := by
  obtain ⟨⟨v, h1, h2⟩, h3⟩ := h
  subst hn hM
  refine (drop_calls h1 id (by omega)).mono ?_
  rintro e w' ⟨rfl, hb⟩
  exact ⟨rfl, go_I h1 h2 h3 hb⟩
theorem empty_I (h : QI N X W B ag rm ct []) : Calls Try.prog 36 #[.pointer (some ⟨B, 0, none⟩)] W fun e w' => e = .returned (.tuple #[.agg #[.int .i64 0, .int .i64 0, .int .i64 0], .int .i64 12]) ∧ QI N X w' B ag rm ct [] ∧ Fr (KX N X) W w' := by
  obtain ⟨⟨v, h1, h2⟩, h3⟩ := h
  refine (take_empty h1).mono ?_
  rintro e w' ⟨rfl, hb⟩
  exact ⟨rfl, go_I h1 h2 h3 hb⟩
theorem take_I (h : QI N X W B ag rm ct L) (h0 : 0 < L.length) (hl : L.length ≤ 90000) (ct1 : Int) (hct : IntKind.i64.wrap (ct + 1) = ct1) (x : S77) (hx : Heap.g z77 L 0 = x) (M : List S77) (hM : removeL ag L 0 = M) :
    Calls Try.prog 36 #[.pointer (some ⟨B, 0, none⟩)] W fun e w' => e = .returned (.tuple #[.agg #[.int .i64 x.f0, .int .i64 x.f1, .int .i64 x.f2], .int .i64 0]) ∧ QI N X w' B ag rm ct1 M ∧ Fr (KX N X) W w' := by
  obtain ⟨⟨v, h1, h2⟩, h3⟩ := h
  subst hx hM
  refine (take_calls h1 h0 hl ct1 hct).mono ?_
  rintro e w' ⟨rfl, hb⟩
  exact ⟨rfl, go_I h1 h2 h3 hb⟩
/-- List lays its row in blocks of its own. -/
theorem list_I (h : QI N X W B ag rm ct L) (hl : L.length ≤ 90000) : Calls Try.prog 55 #[.pointer (some ⟨B, 0, none⟩)] W fun e w' => ∃ v0_ M, e = .returned v0_ ∧ M.Perm L ∧ Sorted ag M ∧ Kd.R k77 77 w' W.heap.size (fun _ => True) v0_ M ∧ Below W.heap.size W w' := by
  obtain ⟨⟨v, h1, h2⟩, h3⟩ := h
  exact list_calls h1 (by omega)
end
end Go.Proofs.Ytfkebbkfmchnaaa.Ln
