/- A ring's calls for a law's walk: what is kept besides the ring is told by a set X of blocks. Conditions: the ring lies in memory as told. -/
import Derived.Test.YtedolmjealgeoaaTak
set_option linter.unusedVariables false
namespace Go.Proofs.Ytedolmjealgeoaa.Rg
open Go.RowKit Go.Maps Go.Proofs.Ytedolmjealgeoaa.PBase Go.Proofs.Ytedolmjealgeoaa.Cat Go.Proofs.YtedolmjealgeoaaW.PrintWords Go.Proofs.YtedolmjealgeoaaW.PrintLast Go.Proofs.YtedolmjealgeoaaW.PrintMore
/-- A ring whose blocks are none of X. -/
structure RJ (N : Nat) (X : Nat → Prop) (W : World) (R : Nat) (T : List S114) : Prop where
  ex : ∃ F, RI N F W R T ∧ ∀ k, X k → ¬ F k
  xs : ∀ k, X k → k < W.heap.size
/-- What may change. -/
abbrev KX (N : Nat) (X : Nat → Prop) (k : Nat) : Prop := N ≤ k ∧ ¬ X k
theorem Fr.b0 {N : Nat} {X : Nat → Prop} {W W1 : World} (h : Fr (KX N X) W W1) : Fr (fun k => N ≤ k) W W1 := h.weak (fun _ h => h.1)
theorem Fr.of_b0 {N : Nat} {W w' : World} (hb : Below W.heap.size W w') : Fr (fun k => N ≤ k) W w' := Fr.of_below hb
theorem R_fr {N b : Nat} {X : Nat → Prop} {W w' : World} {v : Value} {M : List S24} (hR : Kd.R k24 24 W b X v M) (hf : Fr (KX N X) W w') : Kd.R k24 24 w' b X v M :=
  Kd.R_kept hR (S := KX N X) ⟨hf.size, fun i hi hn => hf.blk i hi hn⟩ (fun _ hx hk => hk.2 hx)
section
variable {N : Nat} {X Y : Nat → Prop} {W W' : World} {R : Nat} {T : List S114}
theorem RJ.of_go {F : Nat → Prop} {w' : World} {T' : List S114} (h : RI N F W R T) (hX : ∀ k, X k → ¬ F k) (xs : ∀ k, X k → k < W.heap.size) (hg : RGo N F W w' R T') : RJ N X w' R T' ∧ Fr (KX N X) W w' := by
  obtain ⟨F', k1, k2, k3⟩ := hg
  refine ⟨⟨⟨F', k1, fun k hk e => ?_⟩, fun k hk => Nat.lt_of_lt_of_le (xs k hk) k3.size⟩, k3.weak (fun k hk => ⟨(h.lt k hk).1, fun hx => hX k hx hk⟩)⟩
  rcases k2 k e with e | e
  · exact hX k hk e
  · have := xs k hk; omega
theorem RJ.step (h : RJ N X W R T) (hb : Below W.heap.size W W') : RJ N X W' R T := by
  obtain ⟨⟨F, h1, h2⟩, h3⟩ := h
  exact ⟨⟨F, h1.step hb, h2⟩, fun k hk => Nat.lt_of_lt_of_le (h3 k hk) hb.size⟩
theorem RJ.sub (h : RJ N X W R T) (hs : ∀ k, Y k → X k) : RJ N Y W R T := by
  obtain ⟨⟨F, h1, h2⟩, h3⟩ := h
  exact ⟨⟨F, h1, fun k hk => h2 k (hs k hk)⟩, fun k hk => h3 k (hs k hk)⟩
theorem RJ.more (h : RJ N X W R T) (hb : Below W.heap.size W W') (hY : ∀ k, Y k → W.heap.size ≤ k ∧ k < W'.heap.size) : RJ N (fun k => X k ∨ Y k) W' R T := by
  obtain ⟨⟨F, h1, h2⟩, h3⟩ := h
  refine ⟨⟨F, h1.step hb, fun k hk e => ?_⟩, fun k hk => ?_⟩
  · rcases hk with hk | hk
    · exact h2 k hk e
    · have := (h1.lt k e).2
      have := (hY k hk).1
      omega
  · rcases hk with hk | hk
    · exact Nat.lt_of_lt_of_le (h3 k hk) hb.size
    · exact (hY k hk).2
theorem RJ.keep (h : RJ N X W R T) (hf : Fr X W W') : RJ N X W' R T := by
  obtain ⟨⟨F, h1, h2⟩, h3⟩ := h
  exact ⟨⟨F, h1.keep hf (fun k hk hx => h2 k hx hk), h2⟩, fun k hk => Nat.lt_of_lt_of_le (h3 k hk) hf.size⟩
theorem RJ.swap {X1 : Nat → Prop} (h : RJ N X W R T) (hf : Fr X W W') (hX : ∀ k, X1 k → (X k ∨ W.heap.size ≤ k) ∧ k < W'.heap.size) : RJ N X1 W' R T := by
  obtain ⟨⟨F, h1, h2⟩, h3⟩ := h
  refine ⟨⟨F, h1.keep hf (fun k hk hx => h2 k hx hk), fun k hk e => ?_⟩, fun k hk => (hX k hk).2⟩
  rcases (hX k hk).1 with hk | hk
  · exact h2 k hk e
  · have := (h1.lt k e).2
    omega
theorem RJ.perm {U : List S114} (h : RJ N X W R T) (hp : T.Perm U) : RJ N X W R U := by
  obtain ⟨⟨F, h1, h2⟩, h3⟩ := h
  exact ⟨⟨F, h1.perm hp, h2⟩, h3⟩
theorem RJ.pt (h : RJ N X W R T) : PT T := by
  obtain ⟨⟨F, h1, h2⟩, h3⟩ := h
  exact h1.pt
theorem RJ.base_le (h : RJ N X W R T) : N ≤ W.heap.size := by
  obtain ⟨⟨F, h1, h2⟩, h3⟩ := h
  have := h1.lt R h1.fr
  omega
theorem new_J (W : World) : Calls Try.prog 4 #[] W fun e w' => ∃ R, e = .returned (.pointer (some ⟨R, 0, none⟩)) ∧ RJ W.heap.size (fun _ => False) w' R [] ∧ Below W.heap.size W w' := by
  refine (new_calls W).mono ?_
  rintro e w' ⟨R, F, rfl, h, hb⟩
  exact ⟨R, rfl, ⟨⟨F, h, fun _ h => h.elim⟩, fun _ h => h.elim⟩, hb⟩
theorem RJ.lower (h : RJ N X W R T) {M : Nat} (hM : M ≤ N) : RJ M X W R T := by
  obtain ⟨⟨F, ⟨h1, ⟨m, fu, vs, a1, a2, a3, a4, a5, a6⟩, p3, p4⟩, h2⟩, h3⟩ := h
  exact ⟨⟨F, ⟨h1, ⟨m, fu, vs, a1, a2, a3, a4, fun j hj => Kd.R_lower (a5 j hj) hM, a6⟩, p3, fun k hk => ⟨Nat.le_trans hM (p4 k hk).1, (p4 k hk).2⟩⟩, h2⟩, h3⟩
theorem put_J (h : RJ N X W R T) (slot : Int) (d : S24) (hw : (Lit.int .i64 d.f0).wf = true) (hlen : T.length ≤ 100000) (b : Bool) (hb : putB T slot d = b) (U : List S114) (hU : (if b = true then ⟨slot, d⟩ :: T else T) = U) : Calls Try.prog 5 #[.pointer (some ⟨R, 0, none⟩), .int .i64 slot, .agg #[.int .i64 d.f0, .int .u64 d.f1]] W fun e w' => e = .returned (.bool b) ∧ RJ N X w' R U ∧ Fr (KX N X) W w' := by
  obtain ⟨⟨F, h1, h2⟩, h3⟩ := h
  subst hb hU
  refine (put_ring h1 slot d hw hlen).mono ?_
  rintro e w' ⟨rfl, hg⟩
  exact ⟨rfl, RJ.of_go h1 h2 h3 hg.out⟩
theorem drop_J (h : RJ N X W R T) (id : Int) (hw : (Lit.int .i64 id).wf = true) (hlen : T.length ≤ 100000) (r : Option Int) (hr : slotOf T id = r) : Calls Try.prog 9 #[.pointer (some ⟨R, 0, none⟩), .int .i64 id] W fun e w' => e = .returned (.tuple #[.int .i64 (r.getD 0), .bool r.isSome]) ∧ RJ N X w' R (dropT T id) ∧ Fr (KX N X) W w' := by
  obtain ⟨⟨F, h1, h2⟩, h3⟩ := h
  subst hr
  refine (drop_ring h1 id hw hlen).mono ?_
  rintro e w' ⟨rfl, hg⟩
  exact ⟨rfl, RJ.of_go h1 h2 h3 hg.out⟩
theorem len_J (h : RJ N X W R T) : Calls Try.prog 6 #[.pointer (some ⟨R, 0, none⟩)] W fun e w' => e = .returned (.int .i64 T.length) ∧ Below W.heap.size W w' := by
  obtain ⟨⟨F, h1, h2⟩, h3⟩ := h
  exact len_calls h1
theorem mask_J (h : RJ N X W R T) : Calls Try.prog 8 #[.pointer (some ⟨R, 0, none⟩)] W fun e w' => ∃ fu, e = .returned (.int .u64 fu) ∧ Mk.U fu ∧ (∀ j : Nat, j < 64 → Mk.hs fu j = decide (atS T j ≠ [])) ∧ Below W.heap.size W w' := by
  obtain ⟨⟨F, h1, h2⟩, h3⟩ := h
  exact mask_calls h1
/-- What a slot's list holds: nothing, where there is no such slot. -/
def lst (T : List S114) (slot : Int) : List S24 := if 0 ≤ slot ∧ slot < 64 then psort (atS T slot) else []
theorem list_J (h : RJ N X W R T) (slot : Int) (hl : T.length ≤ 100000) : Calls Try.prog 10 #[.pointer (some ⟨R, 0, none⟩), .int .i64 slot] W fun e w' => ∃ v, e = .returned v ∧ Kd.R k24 24 w' W.heap.size (fun _ => True) v (lst T slot) ∧ Below W.heap.size W w' := by
  obtain ⟨⟨F, h1, h2⟩, h3⟩ := h
  by_cases hs : 0 ≤ slot ∧ slot < 64
  · unfold lst
    rw [if_pos hs]
    obtain ⟨j, rfl⟩ : ∃ j : Nat, slot = (j : Int) := ⟨slot.toNat, by omega⟩
    exact list_calls h1 j (by omega) (by omega)
  · unfold lst
    rw [if_neg hs]
    refine (list_out h1 slot hs).mono ?_
    rintro e w' ⟨rfl, hb⟩
    exact ⟨_, rfl, Kd.R_nil _ _ _ _ _, hb⟩
theorem take_out {F : Nat → Prop} (h : RI N F W R T) (slot : Int) (hj : ¬ (0 ≤ slot ∧ slot < 64)) : Calls Try.prog 22 #[.pointer (some ⟨R, 0, none⟩), .int .i64 slot] W fun e w' => e = .returned (.slice none 0 0) ∧ Below W.heap.size W w' := by
  go_enter Try.func22, Try.ntmps22
  go_wp2_with (go_at_call 10; refine (list_out h slot hj).mono ?_; rintro e w1 ⟨rfl, hb1⟩)
  go_loopg [13] 1 (fun gg v13 wr => v13 = .int .i64 0 ∧ wr = w1)
  case atStart => exact ⟨rfl, rfl⟩
  case round =>
    obtain ⟨rfl, rfl⟩ := hrel
    go_wp2
    go_ret
    exact ⟨rfl, hb1⟩
theorem take_nil (W : World) (slot : Int) : Calls Try.prog 22 #[.pointer none, .int .i64 slot] W fun e w' => e = .returned (.slice none 0 0) ∧ Below W.heap.size W w' := by
  go_enter Try.func22, Try.ntmps22
  go_wp2_with (go_at_call 10; refine (list_nil _ slot).mono ?_; rintro e w1 ⟨rfl, hb1⟩)
  go_loopg [13] 1 (fun gg v13 wr => v13 = .int .i64 0 ∧ wr = w1)
  case atStart => exact ⟨rfl, rfl⟩
  case round =>
    obtain ⟨rfl, rfl⟩ := hrel
    go_wp2
    go_ret
    exact ⟨rfl, hb1⟩
/-- What is left behind a Take. -/
def takeT (T : List S114) (slot : Int) : List S114 := T.filter (fun l => !(l.f0 == slot))
theorem take_J (h : RJ N X W R T) (slot : Int) (hlen : T.length ≤ 100000) : Calls Try.prog 22 #[.pointer (some ⟨R, 0, none⟩), .int .i64 slot] W fun e w' => ∃ v, e = .returned v ∧ Aside0 (Kd.R k24 24 w' W.heap.size (fun k => v.ownBlock = some k) v (lst T slot) ∧ RJ N (fun k => X k ∨ v.ownBlock = some k) w' R (takeT T slot) ∧ Fr (KX N X) W w') := by
  obtain ⟨⟨F, h1, h2⟩, h3⟩ := h
  by_cases hs : 0 ≤ slot ∧ slot < 64
  · unfold lst
    rw [if_pos hs]
    obtain ⟨j, rfl⟩ : ∃ j : Nat, slot = (j : Int) := ⟨slot.toNat, by omega⟩
    refine (take_calls h1 j (by omega) hlen).mono ?_
    rintro e w' ⟨v, rfl, hg⟩
    obtain ⟨F', k0, k1, k2, k3⟩ := hg.out
    refine ⟨v, rfl, ⟨Kd.R_mono (Kd.R_tight2 rfl k0) (fun k hk => hk.1.symm), ⟨⟨F', k1, fun k hk e => ?_⟩, fun k hk => ?_⟩, k3.weak (fun k hk => ⟨(h1.lt k hk).1, fun hx => h2 k hx hk⟩)⟩⟩
    · rcases hk with hk | hk
      · rcases k2 k e with e | e
        · exact h2 k hk e
        · have := h3 k hk; omega
      · exact (Kd.R_tight2 rfl k0).1 k hk |>.2 e
    · rcases hk with hk | hk
      · exact Nat.lt_of_lt_of_le (h3 k hk) k3.size
      · exact own_lt (own_of_R k0) k hk
  · unfold lst
    rw [if_neg hs]
    have e1 : takeT T slot = T := by
      unfold takeT
      refine List.filter_eq_self.2 (fun l hl => ?_)
      have := h1.pt.sl l hl
      have : ¬ l.f0 = slot := by omega
      simpa using this
    rw [e1]
    refine (take_out h1 slot hs).mono ?_
    rintro e w' ⟨rfl, hb⟩
    exact ⟨_, rfl, ⟨Kd.R_nil _ _ _ _ _, ⟨⟨F, h1.step hb, fun k hk => by
      rcases hk with hk | hk
      · exact h2 k hk
      · cases hk⟩, fun k hk => by
      rcases hk with hk | hk
      · exact Nat.lt_of_lt_of_le (h3 k hk) hb.size
      · cases hk⟩, Fr.of_below hb⟩⟩
end
end Go.Proofs.Ytedolmjealgeoaa.Rg
