/- slices.Clone of timers as a call. Conditions: the list reads. -/
import Derived.Test.YtedolmjealgeoaaIns
namespace Go.Proofs.Ytedolmjealgeoaa.Rg
open Go.Lib Go.RowKit Go.Maps Go.Proofs.Ytedolmjealgeoaa.PBase Go.Proofs.Ytedolmjealgeoaa.Cat Go.Proofs.YtedolmjealgeoaaW.PrintWords Go.Proofs.YtedolmjealgeoaaW.PrintLast Go.Proofs.YtedolmjealgeoaaW.PrintMore
set_option linter.unusedVariables false
theorem clone_walk (A0 : Option Addr) (c0 : Nat) (l : List S24) (w : World) (hr0 : Kd.C k24 w A0 l.length l) (hn : l.length ≤ 1000000) :
    Calls Try.prog 21 #[.slice A0 l.length c0] w fun e w' => ∃ v0_, e = .returned v0_ ∧ Kd.R k24 24 w' w.heap.size (fun _ => True) v0_ l ∧ Below w.heap.size w w' := by
  cases A0 with
  | none =>
    have h0 : l.length = 0 := by
      rcases Nat.eq_zero_or_pos l.length with h | h
      · exact h
      · obtain ⟨ad, he, _⟩ := hr0.2.2 h
        cases he
    obtain rfl := List.eq_nil_of_length_eq_zero h0
    have heq := fun W => Lib.run_eql_slice_nil (P := Try.prog) W 33 24 none 0 c0 0 0 Try.underlying33
    go_enter Try.func21, Try.ntmps21
    go_wp2
    go_ret
    exact ⟨_, rfl, Kd.R_nil _ _ _ _ _, Below.refl _ _⟩
  | some ad =>
    have HR0 := Aside0.mk hr0
    clear hr0
    have heq := fun W => Lib.run_eql_slice_nil (P := Try.prog) W 33 24 (some ad) l.length c0 0 0 Try.underlying33
    have HB := below_alloc (Below.refl w.heap.size w) (.cells #[] 24)
    have HL : Kd.R k24 24 (w.alloc (.cells #[] 24)) w.heap.size (fun _ => True) (.slice (some ⟨w.heap.size, 0, none⟩) 0 0) [] := ⟨fun _ _ => trivial, OwnRow.lit w w.heap.size (inner := []) (Reps.none _ _) (Nat.le_refl _) (by simp)⟩
    obtain ⟨v1, w1, hrun, h1, h2⟩ := run_rows 33 (some ad) l.length c0 l HL (Kd.C_below HR0.out HB) HB.size (by simp; omega)
    go_enter Try.func21, Try.ntmps21
    go_wp2_with (at_builtin; refine Lib.wpList_append_run _ (by rfl) (.tmp 5) (.tmp 6) 33 33 (by rfl) (.slice (some ⟨w.heap.size, 0, none⟩) 0 0) (.slice (some ad) l.length c0) (by rfl) (by rfl) v1 w1 hrun ?_)
    go_ret
    exact ⟨_, rfl, h1, HB.trans h2⟩
end Go.Proofs.Ytedolmjealgeoaa.Rg
