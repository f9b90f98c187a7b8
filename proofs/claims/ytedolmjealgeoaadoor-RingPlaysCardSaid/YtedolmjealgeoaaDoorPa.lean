/- What holds ahead of and behind an act of RingPlays. Conditions: none. -/
import Derived.Test.YtedolmjealgeoaaDoorRsm
set_option linter.unusedVariables false
namespace Go.Proofs.YtedolmjealgeoaaDoor.Rg
open Go.RowKit Go.Maps Go.Proofs.YtedolmjealgeoaaDoor.PBase Go.Proofs.YtedolmjealgeoaaDoor.Cat Go.Proofs.YtedolmjealgeoaaDoorW.PrintWords Go.Proofs.YtedolmjealgeoaaDoorW.PrintLast Go.Proofs.YtedolmjealgeoaaDoorW.PrintMore
/-- The ring and the reference's, at a world, none of Y theirs. -/
structure PA (N : Nat) (W : World) (R V : Nat) (n : Nat) (Y : Nat → Prop) (w : World) (T U : List S114) (v : Value) : Prop where
  len : T.length ≤ n
  pm : T.Perm U
  pt : PT U
  rs : RS N w V v U
  rj : RJ N (fun k => Y k ∨ X2 V v k) w R T
  ap : ∀ k, Y k → ¬ X2 V v k
  fr : Fr (fun k => N ≤ k) W w
def PTo (N : Nat) (W : World) (R V : Nat) (n : Nat) (w : World) : Prop := ∃ T U v, PA N W R V n (fun _ => False) w T U v
section
variable {N : Nat} {W : World} {R V n : Nat} {Y : Nat → Prop} {w w' : World} {T U : List S114} {v : Value}
theorem PA.step (h : PA N W R V n Y w T U v) (hN : N ≤ w.heap.size) (hb : Below w.heap.size w w') : PA N W R V n Y w' T U v :=
  ⟨h.len, h.pm, h.pt, h.rs.step hb, h.rj.step hb, h.ap, h.fr.then_ (Fr.of_below hb (F := fun _ => False)) (fun _ e => e.elim)⟩
/-- Behind a call of the ring. -/
theorem PA.ring (h : PA N W R V n Y w T U v) {T2 : List S114} (hj : RJ N (fun k => Y k ∨ X2 V v k) w' R T2) (hf : Fr (KX N (fun k => Y k ∨ X2 V v k)) w w') : RS N w' V v U ∧ Fr (fun k => N ≤ k) W w' ∧ Fr (fun k => ¬ Y k) w w' :=
  ⟨h.rs.keep hf (fun k hk e => e.2 (.inr hk)), h.fr.trans (hf.weak (fun k e => e.1)), hf.weak (fun k e y => e.2 (.inl y))⟩
/-- Behind a call of the ring and then one of the reference. -/
theorem PTo.both {w1 w2 : World} {m : Nat} {T2 U2 : List S114} (hap : ∀ k, Y k → ¬ X2 V v k) (hj : RJ N (fun k => Y k ∨ X2 V v k) w1 R T2) (hs : RS N w1 V v U) (hf : Fr (fun k => N ≤ k) W w1) (hg : RSo N w1 V v w2 U2) (hl : T2.length ≤ m) (hp : T2.Perm U2) (pt : PT U2) (hN : W.heap.size ≤ N) (hvN : ∀ k, X2 V v k → N ≤ k) : PTo N W R V m w2 := by
  obtain ⟨v', h1, h2, h3, h4⟩ := RJ.r hj hap hs hg
  exact ⟨T2, U2, v', hl, hp, pt, h1, h2.sub (fun k e => e.elim (fun e => e.elim) .inr), fun _ e => e.elim, hf.trans (h4.weak hvN)⟩
theorem RS.xN (h : RS N w V v U) : ∀ k, X2 V v k → N ≤ k := fun k hk => by
  rcases hk with rfl | hk
  · exact h.nr
  · exact own_base (C3.own_of_R h.r) k hk
theorem put_perm {T U : List S114} (h : T.Perm U) (l : S114) : (l :: T).Perm (U ++ [l]) := (h.cons l).trans (List.perm_append_singleton l U).symm
theorem putB_perm {T U : List S114} (h : T.Perm U) (s : Int) (d : S31) : putB T s d = putB U s d := by
  unfold putB
  rw [decide_eq_decide]
  have : d.f0 ∈ tid T ↔ d.f0 ∈ tid U := (h.map _).mem_iff
  rw [this]
theorem PA.box (h : PA N W R V n (fun _ => False) w T U v) (hb : Below w.heap.size w w') {g : Nat} (hg : g = w.heap.size) (hlt : g < w'.heap.size) : PA N W R V n (fun k => k = g) w' T U v := by
  have hx := h.rj.xs
  refine ⟨h.len, h.pm, h.pt, h.rs.step hb, (h.rj.more (Y := fun k => k = g) hb (fun k hk => ?_)).sub (fun k hk => ?_), fun k hk e => ?_, h.fr.then_ (Fr.of_below hb (F := fun _ => False)) (fun _ e => e.elim)⟩
  · subst hk; subst hg; exact ⟨Nat.le_refl _, hlt⟩
  · rcases hk with hk | hk
    · exact .inr hk
    · exact .inl (.inr hk)
  · have := hx k (.inr e)
    have : k = g := hk
    omega
theorem put_both {s : Int} {d : S31} {b : Bool} (h : T.Perm U) (p : PT U) (hb : putB T s d = b) (hw : (Lit.int .i64 d.f0).wf = true) : (if b = true then ⟨s, d⟩ :: T else T).Perm (if b = true then U ++ [⟨s, d⟩] else U) ∧ PT (if b = true then U ++ [⟨s, d⟩] else U) ∧ (if b = true then ⟨s, d⟩ :: T else T).length ≤ T.length + 1 := by
  cases b with
  | false => exact ⟨h, p, by simp⟩
  | true =>
    obtain ⟨h1, h2⟩ := of_decide_eq_true hb
    have hp := put_perm h (⟨s, d⟩ : S114)
    refine ⟨hp, (((p.perm h.symm).put h1 h2 hw).perm hp), by simp⟩
end
end Go.Proofs.YtedolmjealgeoaaDoor.Rg
