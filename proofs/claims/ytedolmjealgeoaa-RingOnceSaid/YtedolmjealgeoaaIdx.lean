/- slices.IndexFunc by the ring's closure. Conditions: the list reads. -/
import Derived.Test.YtedolmjealgeoaaLaid
namespace Go.Proofs.Ytedolmjealgeoaa.Rg
open Go.Shelf Go.Lib Go.RowKit Go.Maps Go.Proofs.Ytedolmjealgeoaa.PBase Go.Proofs.Ytedolmjealgeoaa.Cat Go.Proofs.YtedolmjealgeoaaW.PrintWords Go.Proofs.YtedolmjealgeoaaW.PrintLast Go.Proofs.YtedolmjealgeoaaW.PrintMore
set_option linter.unusedVariables false
theorem cells_of {w : World} {A0 : Option Addr} {l : List S24} (hr0 : Kd.C k24 w A0 l.length l) (h0 : 0 < l.length) : ∃ b off, A0 = some ⟨b, off, none⟩ ∧ b < w.heap.size ∧ ∀ j, j < l.length → ∀ i v, (Laid.enc l[j]!)[i]? = some v → w.cell? ⟨b, off + j * 2 + i, none⟩ = some v := by
  obtain ⟨ad, rfl, _⟩ := hr0.2.2 h0
  have hc := C_cells hr0
  have hf : (flat l)[0]? ≠ none := by
    intro h
    have := List.getElem?_eq_none_iff.1 h
    rw [flat_len] at this
    omega
  obtain ⟨u, hu⟩ := Option.ne_none_iff_exists'.1 hf
  have h1 := hc 0 u hu
  obtain ⟨b, off, sp⟩ := ad
  have hsp : sp = none := by
    cases sp with
    | none => rfl
    | some s =>
      exfalso
      unfold World.cell? at h1
      simp only [Addr.add] at h1
      split at h1 <;> simp at h1
  subst hsp
  refine ⟨b, off, rfl, World.block_lt_of_cell? w _ h1, fun j hj i v hv => ?_⟩
  have h2 : i < 2 := by have := (List.getElem?_eq_some_iff.1 hv).1; simpa [Laid.enc] using this
  have h3 := (reps_flat (R := fun x cs => cs = enc x) (fun x => rfl) l).2 j _ (List.getElem?_eq_getElem hj)
  have h4 : (flat l)[j * 2 + i]? = some v := by
    rw [getElem!_pos l j hj] at hv
    have : ((flat l).drop (j * 2)).take 2 = Laid.enc l[j] := h3
    rw [← this, List.getElem?_take, if_pos h2, List.getElem?_drop] at hv
    exact hv
  have h5 := hc (j * 2 + i) v h4
  rw [Addr.add_lit, ← Nat.add_assoc] at h5
  exact h5
theorem enters19 : ∀ args w, (callFunc 19 args).run Try.prog w = .ok (.enter 19 args) w := enters_of Try.func19 (by kernel_rfl) rfl
theorem index_nil (A : Option Addr) (c : Nat) (f : Value) (w : World) : Calls Try.prog 29 #[.slice A 0 c, f] w fun e w' => e = .returned (.int .i64 (-1)) ∧ Below w.heap.size w w' := by
  go_enter Try.func29, Try.ntmps29
  go_wp2
  go_loopg [8] 1 (fun _ v8 wr => v8 = .int .i64 0 ∧ wr = w)
  case atStart => exact ⟨rfl, rfl⟩
  case round =>
    obtain ⟨rfl, rfl⟩ := hrel
    go_wp2
    go_ret
    exact ⟨rfl, Below.refl _ _⟩
theorem index_calls (A0 : Option Addr) (c0 : Nat) (l : List S24) (id : Int) (B : Nat) (w : World) (hr0 : Kd.C k24 w A0 l.length l) (hB : B < w.heap.size) (hcell : w.cell? ⟨B, 0, none⟩ = some (.int .i64 id)) :
    Calls Try.prog 29 #[.slice A0 l.length c0, .func (.func 19) #[] #[.pointer (some ⟨B, 0, none⟩)]] w fun e w' => e = .returned (.int .i64 (Lib.idxBy (fun _ y => y.f0 == id) l default)) ∧ Below w.heap.size w w' := by
  rcases Nat.eq_zero_or_pos l.length with h0 | h0
  · obtain rfl := List.eq_nil_of_length_eq_zero h0
    exact index_nil A0 c0 _ w
  · obtain ⟨b, off, rfl, hb, hc⟩ := cells_of hr0 h0
    have h := AnyQ.slices_IndexFunc Try.indexFunc 2 Try.isAgg24 Try.sizeOf24 Laid.enc (fun _ => rfl) (fun x => x.f0 == id) 19 #[.pointer (some ⟨B, 0, none⟩)] enters19 b off l.length c0 l w (Laid.pred19 id B w hB hcell) (Nat.le_refl _) hr0.2.1 hb hc
    rw [List.take_length] at h
    exact h
end Go.Proofs.Ytedolmjealgeoaa.Rg
