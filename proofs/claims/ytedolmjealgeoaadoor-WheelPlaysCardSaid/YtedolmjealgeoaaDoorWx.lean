/- What holds ahead of and behind an act of WheelPlays. Conditions: none. -/
import Derived.Test.YtedolmjealgeoaaDoorWq
set_option linter.unusedVariables false
namespace Go.Proofs.YtedolmjealgeoaaDoor.Wh
open Go.RowKit Go.Maps Go.Proofs.YtedolmjealgeoaaDoor.PBase Go.Proofs.YtedolmjealgeoaaDoor.Cat Go.Proofs.YtedolmjealgeoaaDoor.Rg Go.Proofs.YtedolmjealgeoaaDoor.Tk Go.Proofs.YtedolmjealgeoaaDoorW.PrintWords Go.Proofs.YtedolmjealgeoaaDoorW.PrintLast Go.Proofs.YtedolmjealgeoaaDoorW.PrintMore
/-- The wheel and the reference's, at a world, none of Y theirs. -/
structure QA (N : Nat) (W : World) (B R : Nat) (n : Nat) (Y : Nat → Prop) (w : World) (now : Int) (L : List S31) (v : Value) : Prop where
  len : L.length ≤ n
  so : psort L = L
  rw_ : RW N w R v now L
  wj : WJ N (fun k => Y k ∨ X2 R v k) w B now L
  ap : ∀ k, Y k → ¬ X2 R v k
  yp : ∀ k, Y k → 0 < k
  fr : Fr (fun k => N ≤ k) W w
def QTo (N : Nat) (W : World) (B R : Nat) (n : Nat) (w : World) : Prop := ∃ now L v, QA N W B R n (fun _ => False) w now L v
section
variable {N : Nat} {W : World} {B R n : Nat} {Y : Nat → Prop} {w w' : World} {now t : Int} {L T2 L2 : List S31} {v : Value}
theorem QA.step (h : QA N W B R n Y w now L v) (hb : Below w.heap.size w w') : QA N W B R n Y w' now L v :=
  ⟨h.len, h.so, h.rw_.step hb, h.wj.step hb, h.ap, h.yp, h.fr.then_ (Fr.of_below hb (F := fun _ => False)) (fun _ e => e.elim)⟩
theorem QA.to {m : Nat} (h : QA N W B R n Y w now L v) (hm : n ≤ m) : QTo N W B R m w := ⟨now, L, v, Nat.le_trans h.len hm, h.so, h.rw_, h.wj.sub (fun k e => e.elim (fun e => e.elim) .inr), fun _ e => e.elim, fun _ e => e.elim, h.fr⟩
theorem QTo.step {m : Nat} (h : QTo N W B R m w) (hb : Below w.heap.size w w') : QTo N W B R m w' := by
  obtain ⟨now, L, v, h⟩ := h
  exact ⟨now, L, v, h.step hb⟩
theorem QA.box (h : QA N W B R n (fun _ => False) w now L v) (hb : Below w.heap.size w w') {g : Nat} (hg : g = w.heap.size) (hlt : g < w'.heap.size) : QA N W B R n (fun k => k = g) w' now L v := by
  have hx := h.wj.xs
  have hp := h.wj.base_le
  have hp2 := h.wj.tb.pos
  refine ⟨h.len, h.so, h.rw_.step hb, (h.wj.more (Y := fun k => k = g) hb (fun k hk => ?_)).sub (fun k hk => ?_), fun k hk e => ?_, fun k hk => ?_, h.fr.then_ (Fr.of_below hb (F := fun _ => False)) (fun _ e => e.elim)⟩
  · have e : k = g := hk
    subst e; subst hg; exact ⟨Nat.le_refl _, hlt⟩
  · rcases hk with hk | hk
    · exact .inr hk
    · exact .inl (.inr hk)
  · have := hx k (.inr e)
    have : k = g := hk
    omega
  · have : k = g := hk
    omega
/-- Behind a call of the wheel. -/
theorem QA.wheel (h : QA N W B R n Y w now L v) (hf : Fr (KX N (fun k => Y k ∨ X2 R v k)) w w') : RW N w' R v now L ∧ Fr (fun k => N ≤ k) W w' ∧ Fr (fun k => ¬ Y k) w w' :=
  ⟨h.rw_.keep hf (fun k hk e => e.2 (.inr hk)), h.fr.trans (hf.weak (fun k e => e.1)), hf.weak (fun k e y => e.2 (.inl y))⟩
/-- Behind a call of the wheel and then one of the reference. -/
theorem QTo.both {w1 w2 : World} {m : Nat} (hap : ∀ k, Y k → ¬ X2 R v k) (hyp : ∀ k, Y k → 0 < k) (hj : WJ N (fun k => Y k ∨ X2 R v k) w1 B t T2) (hs : RW N w1 R v now L) (hf : Fr (fun k => N ≤ k) W w1) (hg : RWo N w1 R v w2 t L2) (hl : L2.length ≤ m) (hp : T2.Perm L2) (so : psort L2 = L2) : QTo N W B R m w2 := by
  obtain ⟨v', h1, h2, h3, h4⟩ := WJ.r hj hap hs hyp hg
  exact ⟨t, L2, v', hl, so, h1, (h2.perm hp).sub (fun k e => e.elim (fun e => e.elim) .inr), fun _ e => e.elim, fun _ e => e.elim, hf.trans (h4.weak (fun k hk => (hs.lt k hk).1))⟩
theorem PopG.uniq {x y : S31} {a b : Bool} {c d : Int} {L1 L2 : List S31} (h1 : PopG now L t x a c L1) (h2 : PopG now L t y b d L2) : x = y ∧ a = b ∧ c = d ∧ L1 = L2 := by
  have key : ∀ (x : S31) (M : List S31), psort L = x :: M → x.f1 ≤ t → (∀ e ∈ L, t < e.f1) → False := fun x M h hx hn => by
    have : x ∈ L := (psort_perm L).mem_iff.1 (by rw [h]; exact List.mem_cons_self ..)
    have := hn x this
    omega
  cases h1 with
  | yes x M e1 e2 =>
    cases h2 with
    | yes y M2 f1 f2 =>
      rw [e1] at f1
      injection f1 with f1 f3
      subst f1 f3
      exact ⟨rfl, rfl, rfl, rfl⟩
    | no f1 => exact (key _ _ e1 e2 f1).elim
  | no e1 =>
    cases h2 with
    | yes y M2 f1 f2 => exact (key _ _ f1 f2 e1).elim
    | no f1 => exact ⟨rfl, rfl, rfl, rfl⟩
theorem PopG.so {x : S31} {a : Bool} {c : Int} {L1 : List S31} (h1 : PopG now L t x a c L1) (hs : psort L = L) : psort L1 = L1 ∧ L1.length ≤ L.length := by
  cases h1 with
  | yes x M e1 e2 =>
    have h5 : So (x :: L1) := e1 ▸ psort_so L
    refine ⟨psort_of (List.pairwise_cons.1 h5).2 (List.Perm.refl _), ?_⟩
    have h6 := congrArg List.length e1
    rw [psort_len, List.length_cons] at h6
    omega
  | no e1 => exact ⟨hs, Nat.le_refl _⟩
theorem rest_so (hs : psort L = L) (t : Int) : psort (restT L t) = restT L t ∧ (restT L t).length ≤ L.length := by
  unfold restT
  rw [hs]
  have h5 : So L := hs ▸ psort_so L
  exact ⟨psort_of (h5.sublist List.filter_sublist) (List.Perm.refl _), List.length_filter_le _ _⟩
/-- What Insert leaves, with both. -/
theorem ins_both {id a r : Int} (hs : psort L = L) (hr : insR now L id a = r) : (insT now L id a).Perm (if r = 0 then psort (⟨id, a⟩ :: L) else L) ∧ psort (if r = 0 then psort (⟨id, a⟩ :: L) else L) = (if r = 0 then psort (⟨id, a⟩ :: L) else L) ∧ (if r = 0 then psort (⟨id, a⟩ :: L) else L).length ≤ L.length + 1 := by
  unfold insR at hr
  unfold insT
  by_cases h1 : id ∈ ids L
  · rw [if_pos h1] at hr ⊢
    subst hr
    rw [if_neg (by decide)]
    exact ⟨List.Perm.refl _, hs, Nat.le_succ _⟩
  · rw [if_neg h1] at hr ⊢
    by_cases h2 : a ≤ now
    · rw [if_pos h2] at hr ⊢
      subst hr
      rw [if_neg (by decide)]
      exact ⟨List.Perm.refl _, hs, Nat.le_succ _⟩
    · rw [if_neg h2] at hr ⊢
      subst hr
      rw [if_pos rfl]
      exact ⟨(psort_perm _).symm, psort_of (psort_so _) (List.Perm.refl _), Nat.le_of_eq (psort_len _)⟩
theorem rm_so (hs : psort L = L) (id : Int) : psort (rm L id) = rm L id ∧ (rm L id).length ≤ L.length := by
  have h5 : So L := hs ▸ psort_so L
  exact ⟨psort_of (h5.sublist List.filter_sublist) (List.Perm.refl _), List.length_filter_le _ _⟩
theorem eqA64 (d : Nat) (w : World) (x0 y0 : Int) (x1 y1 : Bool) :
    (Op.equalIn (d + 2) 64 (.agg #[.int .u64 x0, .bool x1]) (.agg #[.int .u64 y0, .bool y1])).run Tryd.prog w = .ok (x0 == y0 && (x1 == y1)) w := by
  refine eqA_of Tryd.underlying64 (by kernel_rfl) ?_
  refine eqf_cons (by rfl) (by go_simp; rfl) (by go_simp; rfl) (by go_simp) ?_
  exact eqf_last (by rfl) (by go_simp; rfl) (by go_simp; rfl) (by go_simp)
end
end Go.Proofs.YtedolmjealgeoaaDoor.Wh
