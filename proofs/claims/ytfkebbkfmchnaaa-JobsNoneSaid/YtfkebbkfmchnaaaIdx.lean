/- slices.IndexFunc by a job's number, at a queue's row. Conditions: the row reads. -/
import Derived.Test.YtfkebbkfmchnaaaHq
import Derived.Test.YtfkebbkfmchnaaaDr
import Derived.Shelf.SlicesQ.IndexFunc
import Derived.Shelf.Lay
import Derived.Ground.SlgfProg
import Derived.Lib.SliceRun
namespace Go.Proofs
open Go.Shelf Go.RowKit Go.Lib
shelf_lay_g SlLaysH0.n6 Slgf 6 at Try 70 as Try.indexFunc
end Go.Proofs
namespace Go.Proofs.Ytfkebbkfmchnaaa.Ln
open Go.Shelf Go.Lib Go.RowKit Go.Proofs.Ytfkebbkfmchnaaa.PBase Go.Proofs.Ytfkebbkfmchnaaa.Cat Go.Proofs.YtfkebbkfmchnaaaW.PrintWords Go.Proofs.YtfkebbkfmchnaaaW.PrintLast Go.Proofs.YtfkebbkfmchnaaaW.PrintMore
instance instS77 : Inhabited S77 := ⟨z77⟩
/-- find's closure: its number is id; id lies in the cell ⟨B, 0⟩. -/
theorem pred71 (id : Int) (B : Nat) (w : World) (hB : B < w.heap.size) (hcell : w.cell? ⟨B, 0, none⟩ = some (.int .i64 id)) :
    PredBelow Try.prog 71 #[.pointer (some ⟨B, 0, none⟩)] (fun x => .agg (enc x).toArray) (fun x => x.f0 == id) w := fun W x hb => by
  have hc : W.cell? ⟨B, 0, none⟩ = some (.int .i64 id) := (hb.cell (p := ⟨B, 0, none⟩) hB).trans hcell
  have hBW : B < W.heap.size := Nat.lt_of_lt_of_le hB hb.size
  have hne : B ≠ W.heap.size := by omega
  show Calls Try.prog 71 #[.agg #[.int .i64 x.f0, .int .i64 x.f1, .int .i64 x.f2], .pointer (some ⟨B, 0, none⟩)] W _
  go_enter Try.func71, Try.ntmps71
  go_wp2
  all_goals (go_ret; exact ⟨by simp_all, hb.alloc hb.size _⟩)
theorem cells_of {w : World} {A0 : Option Addr} {l : List S77} (hr0 : Kd.C k77 w A0 l.length l) (h0 : 0 < l.length) : ∃ b off, A0 = some ⟨b, off, none⟩ ∧ b < w.heap.size ∧ ∀ j, j < l.length → ∀ i v, (enc l[j]!)[i]? = some v → w.cell? ⟨b, off + j * 3 + i, none⟩ = some v := by
  obtain ⟨ad, rfl, _⟩ := hr0.2.2 h0
  have hc := C_cells hr0
  have hf : (flat l)[0]? ≠ none := by
    intro h
    have := List.getElem?_eq_none_iff.1 h
    rw [flat_len] at this
    omega
  obtain ⟨u, hu⟩ := Option.ne_none_iff_exists'.1 hf
  have h1 := hc 0 u hu
  obtain ⟨b, off, sp⟩ := ad
  have hsp : sp = none := by
    cases sp with
    | none => rfl
    | some s =>
      exfalso
      unfold World.cell? at h1
      simp only [Addr.add] at h1
      split at h1 <;> simp at h1
  subst hsp
  refine ⟨b, off, rfl, World.block_lt_of_cell? w _ h1, fun j hj i v hv => ?_⟩
  have h2 : i < 3 := by have := (List.getElem?_eq_some_iff.1 hv).1; simpa [enc] using this
  have h3 := (reps_flat (R := fun x cs => cs = enc x) (fun x => rfl) l).2 j _ (List.getElem?_eq_getElem hj)
  have h4 : (flat l)[j * 3 + i]? = some v := by
    rw [getElem!_pos l j hj] at hv
    have : ((flat l).drop (j * 3)).take 3 = enc l[j] := h3
    rw [← this, List.getElem?_take, if_pos h2, List.getElem?_drop] at hv
    exact hv
  have h5 := hc (j * 3 + i) v h4
  rw [Addr.add_lit, ← Nat.add_assoc] at h5
  exact h5
theorem enters71 : ∀ args w, (callFunc 71 args).run Try.prog w = .ok (.enter 71 args) w := enters_of Try.func71 (by kernel_rfl) rfl
theorem index_nil (A : Option Addr) (c : Nat) (f : Value) (w : World) : Calls Try.prog 70 #[.slice A 0 c, f] w fun e w' => e = .returned (.int .i64 (-1)) ∧ Below w.heap.size w w' := by
  go_enter Try.func70, Try.ntmps70
  go_wp2
  go_loopg [8] 1 (fun _ v8 wr => v8 = .int .i64 0 ∧ wr = w)
  case atStart => exact ⟨rfl, rfl⟩
  case round =>
    obtain ⟨rfl, rfl⟩ := hrel
    go_wp2
    go_ret
    exact ⟨rfl, Below.refl _ _⟩
theorem index_calls (A0 : Option Addr) (c0 : Nat) (l : List S77) (id : Int) (B : Nat) (w : World) (hr0 : Kd.C k77 w A0 l.length l) (hB : B < w.heap.size) (hcell : w.cell? ⟨B, 0, none⟩ = some (.int .i64 id)) :
    Calls Try.prog 70 #[.slice A0 l.length c0, .func (.func 71) #[] #[.pointer (some ⟨B, 0, none⟩)]] w fun e w' => e = .returned (.int .i64 (Lib.idxBy (fun _ y => y.f0 == id) l default)) ∧ Below w.heap.size w w' := by
  rcases Nat.eq_zero_or_pos l.length with h0 | h0
  · obtain rfl := List.eq_nil_of_length_eq_zero h0
    exact index_nil A0 c0 _ w
  · obtain ⟨b, off, rfl, hb, hc⟩ := cells_of hr0 h0
    have h := AnyQ.slices_IndexFunc Try.indexFunc 3 Try.isAgg77 Try.sizeOf77 enc (fun _ => rfl) (fun x => x.f0 == id) 71 #[.pointer (some ⟨B, 0, none⟩)] enters71 b off l.length c0 l w (pred71 id B w hB hcell) (Nat.le_refl _) hr0.2.1 hb hc
    rw [List.take_length] at h
    exact h
/-- A job's place by its number; -1. -/
def place (l : List S77) (id : Int) : Int := Lib.idxBy (fun _ y => y.f0 == id) l default
set_option maxHeartbeats 4000000 in
set_option maxRecDepth 100000 in
theorem find_calls {W : World} {base B : Nat} {ag rm ct : Int} {v : Value} {L : List S77} (h : QS W base B ag v rm ct L) (id : Int) :
    Calls Try.prog 57 #[.pointer (some ⟨B, 0, none⟩), .int .i64 id] W fun e w' => e = .returned (.int .i64 (place L id)) ∧ Below W.heap.size W w' := by
  have c1 : W.cell? ⟨B, 1, none⟩ = some v := h.cell 1
  have hlt := h.lt
  have hne : B ≠ W.heap.size := by omega
  obtain ⟨A, c, hv, hL⟩ := Kd.R_reads (R_of_own h.own)
  subst hv
  have hC := Aside0.mk hL.2
  clear hL
  have hb1 : Below W.heap.size W (W.alloc (.cells #[.int .i64 id] 3)) := below_alloc (Below.refl _ _) _
  go_enter Try.func57, Try.ntmps57
  go_wp2_with (go_at_call 70; refine (index_calls A c L id W.heap.size _ (Kd.C_below hC.out hb1) (by simp) (by simp)).mono ?_; rintro e w7 ⟨rfl, hb7⟩)
  go_ret
  exact ⟨rfl, below_step hb1 hb7⟩
theorem place_from (id : Int) : ∀ (l : List S77) (i : Nat), (Lib.idxByFrom (fun _ y : S77 => y.f0 == id) default l i = -1 ∧ ∀ x ∈ l, x.f0 ≠ id) ∨ ∃ k, k < l.length ∧ Lib.idxByFrom (fun _ y : S77 => y.f0 == id) default l i = ((i + k : Nat) : Int) ∧ (Heap.g z77 l k).f0 = id := by
  intro l
  induction l with
  | nil => intro i; exact .inl ⟨rfl, fun _ h => by cases h⟩
  | cons y l ih =>
    intro i
    unfold Lib.idxByFrom
    by_cases hy : y.f0 = id
    · rw [if_pos (by simpa using hy)]
      exact .inr ⟨0, by simp, by simp, by simpa [Heap.g] using hy⟩
    · rw [if_neg (by simpa using hy)]
      rcases ih (i + 1) with ⟨h1, h2⟩ | ⟨k, h1, h2, h3⟩
      · refine .inl ⟨h1, fun x hx => ?_⟩
        rcases List.mem_cons.1 hx with rfl | hx
        · exact hy
        · exact h2 x hx
      · refine .inr ⟨k + 1, by simpa using h1, by rw [h2]; omega, ?_⟩
        simpa [Heap.g] using h3
theorem place_cases (l : List S77) (id : Int) : (place l id = -1 ∧ ∀ x ∈ l, x.f0 ≠ id) ∨ ∃ k, k < l.length ∧ place l id = (k : Int) ∧ (Heap.g z77 l k).f0 = id := by
  have h := place_from id l 0
  simpa [place, Lib.idxBy] using h
end Go.Proofs.Ytfkebbkfmchnaaa.Ln
