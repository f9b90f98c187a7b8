/- slices.IndexFunc by a job's number, at a queue's row. Conditions: the row reads. -/
import Derived.Test.YtfkebbkfmchnaaaGa
import Derived.Test.YtfkebbkfmchnaaaDr
import Derived.Shelf.SlicesQ.IndexFunc
import Derived.Shelf.Lay
import Derived.Ground.SlgfProg
import Derived.Lib.SliceRun
import Derived.Shelf.SlSortCmp.NoneTotal
import Derived.Ground.SlsfProg
import Derived.Lib.AppendZeros
namespace Go.Proofs
open Go.Shelf Go.RowKit Go.Lib
shelf_lay_g SlLaysH0.n6 Slgf 6 at Try 70 as Try.indexFunc
end Go.Proofs
namespace Go.Proofs.Ytfkebbkfmchnaaa.Ln
open Go.Shelf Go.Lib Go.RowKit Go.Proofs.Ytfkebbkfmchnaaa.PBase Go.Proofs.Ytfkebbkfmchnaaa.Cat Go.Proofs.YtfkebbkfmchnaaaW.PrintWords Go.Proofs.YtfkebbkfmchnaaaW.PrintLast Go.Proofs.YtfkebbkfmchnaaaW.PrintMore
instance instS77 : Inhabited S77 := ⟨z77⟩
/-- find's closure: its number is id; id lies in the cell ⟨B, 0⟩. -/
theorem pred71 (id : Int) (B : Nat) (w : World) (hB : B < w.heap.size) (hcell : w.cell? ⟨B, 0, none⟩ = some (.int .i64 id)) :
    PredBelow Try.prog 71 #[.pointer (some ⟨B, 0, none⟩)] (fun x => .agg (enc x).toArray) (fun x => x.f0 == id) w := fun W x hb => by
  have hc : W.cell? ⟨B, 0, none⟩ = some (.int .i64 id) := (hb.cell (p := ⟨B, 0, none⟩) hB).trans hcell
  have hBW : B < W.heap.size := Nat.lt_of_lt_of_le hB hb.size
  have hne : B ≠ W.heap.size := by omega
  show Calls Try.prog 71 #[.agg #[.int .i64 x.f0, .int .i64 x.f1, .int .i64 x.f2], .pointer (some ⟨B, 0, none⟩)] W _
  go_enter Try.func71, Try.ntmps71
  go_wp2
  all_goals (go_ret; exact ⟨by simp_all, hb.alloc hb.size _⟩)
theorem cells_of {w : World} {A0 : Option Addr} {l : List S77} (hr0 : Kd.C k77 w A0 l.length l) (h0 : 0 < l.length) : ∃ b off, A0 = some ⟨b, off, none⟩ ∧ b < w.heap.size ∧ ∀ j, j < l.length → ∀ i v, (enc l[j]!)[i]? = some v → w.cell? ⟨b, off + j * 3 + i, none⟩ = some v := by
  obtain ⟨ad, rfl, _⟩ := hr0.2.2 h0
  have hc := C_cells hr0
  have hf : (flat l)[0]? ≠ none := by
    intro h
    have := List.getElem?_eq_none_iff.1 h
    rw [flat_len] at this
    omega
  obtain ⟨u, hu⟩ := Option.ne_none_iff_exists'.1 hf
  have h1 := hc 0 u hu
  obtain ⟨b, off, sp⟩ := ad
  have hsp : sp = none := by
    cases sp with
    | none => rfl
    | some s =>
      exfalso
      unfold World.cell? at h1
      simp only [Addr.add] at h1
      split at h1 <;> simp at h1
  subst hsp
  refine ⟨b, off, rfl, World.block_lt_of_cell? w _ h1, fun j hj i v hv => ?_⟩
  have h2 : i < 3 := by have := (List.getElem?_eq_some_iff.1 hv).1; simpa [enc] using this
  have h3 := (reps_flat (R := fun x cs => cs = enc x) (fun x => rfl) l).2 j _ (List.getElem?_eq_getElem hj)
  have h4 : (flat l)[j * 3 + i]? = some v := by
    rw [getElem!_pos l j hj] at hv
    have : ((flat l).drop (j * 3)).take 3 = enc l[j] := h3
    rw [← this, List.getElem?_take, if_pos h2, List.getElem?_drop] at hv
    exact hv
  have h5 := hc (j * 3 + i) v h4
  rw [Addr.add_lit, ← Nat.add_assoc] at h5
  exact h5
theorem enters71 : ∀ args w, (callFunc 71 args).run Try.prog w = .ok (.enter 71 args) w := enters_of Try.func71 (by kernel_rfl) rfl
theorem index_nil (A : Option Addr) (c : Nat) (f : Value) (w : World) : Calls Try.prog 70 #[.slice A 0 c, f] w fun e w' => e = .returned (.int .i64 (-1)) ∧ Below w.heap.size w w' := by
  go_enter Try.func70, Try.ntmps70
  go_wp2
  go_loopg [8] 1 (fun _ v8 wr => v8 = .int .i64 0 ∧ wr = w)
  case atStart => exact ⟨rfl, rfl⟩
  case round =>
    obtain ⟨rfl, rfl⟩ := hrel
    go_wp2
    go_ret
    exact ⟨rfl, Below.refl _ _⟩
theorem index_calls (A0 : Option Addr) (c0 : Nat) (l : List S77) (id : Int) (B : Nat) (w : World) (hr0 : Kd.C k77 w A0 l.length l) (hB : B < w.heap.size) (hcell : w.cell? ⟨B, 0, none⟩ = some (.int .i64 id)) :
    Calls Try.prog 70 #[.slice A0 l.length c0, .func (.func 71) #[] #[.pointer (some ⟨B, 0, none⟩)]] w fun e w' => e = .returned (.int .i64 (Lib.idxBy (fun _ y => y.f0 == id) l default)) ∧ Below w.heap.size w w' := by
  rcases Nat.eq_zero_or_pos l.length with h0 | h0
  · obtain rfl := List.eq_nil_of_length_eq_zero h0
    exact index_nil A0 c0 _ w
  · obtain ⟨b, off, rfl, hb, hc⟩ := cells_of hr0 h0
    have h := AnyQ.slices_IndexFunc Try.indexFunc 3 Try.isAgg77 Try.sizeOf77 enc (fun _ => rfl) (fun x => x.f0 == id) 71 #[.pointer (some ⟨B, 0, none⟩)] enters71 b off l.length c0 l w (pred71 id B w hB hcell) (Nat.le_refl _) hr0.2.1 hb hc
    rw [List.take_length] at h
    exact h
/-- A job's place by its number; -1. -/
def place (l : List S77) (id : Int) : Int := Lib.idxBy (fun _ y => y.f0 == id) l default
set_option maxHeartbeats 4000000 in
set_option maxRecDepth 100000 in
theorem find_calls {W : World} {base B : Nat} {ag rm ct : Int} {v : Value} {L : List S77} (h : QS W base B ag v rm ct L) (id : Int) :
    Calls Try.prog 57 #[.pointer (some ⟨B, 0, none⟩), .int .i64 id] W fun e w' => e = .returned (.int .i64 (place L id)) ∧ Below W.heap.size W w' := by
  have c1 : W.cell? ⟨B, 1, none⟩ = some v := h.cell 1
  have hlt := h.lt
  have hne : B ≠ W.heap.size := by omega
  obtain ⟨A, c, hv, hL⟩ := Kd.R_reads (R_of_own h.own)
  subst hv
  have hC := Aside0.mk hL.2
  clear hL
  have hb1 : Below W.heap.size W (W.alloc (.cells #[.int .i64 id] 3)) := below_alloc (Below.refl _ _) _
  go_enter Try.func57, Try.ntmps57
  go_wp2_with (go_at_call 70; refine (index_calls A c L id W.heap.size _ (Kd.C_below hC.out hb1) (by simp) (by simp)).mono ?_; rintro e w7 ⟨rfl, hb7⟩)
  go_ret
  exact ⟨rfl, below_step hb1 hb7⟩
theorem place_from (id : Int) : ∀ (l : List S77) (i : Nat), (Lib.idxByFrom (fun _ y : S77 => y.f0 == id) default l i = -1 ∧ ∀ x ∈ l, x.f0 ≠ id) ∨ ∃ k, k < l.length ∧ Lib.idxByFrom (fun _ y : S77 => y.f0 == id) default l i = ((i + k : Nat) : Int) ∧ (Heap.g z77 l k).f0 = id := by
  intro l
  induction l with
  | nil => intro i; exact .inl ⟨rfl, fun _ h => by cases h⟩
  | cons y l ih =>
    intro i
    unfold Lib.idxByFrom
    by_cases hy : y.f0 = id
    · rw [if_pos (by simpa using hy)]
      exact .inr ⟨0, by simp, by simp, by simpa [Heap.g] using hy⟩
    · rw [if_neg (by simpa using hy)]
      rcases ih (i + 1) with ⟨h1, h2⟩ | ⟨k, h1, h2, h3⟩
      · refine .inl ⟨h1, fun x hx => ?_⟩
        rcases List.mem_cons.1 hx with rfl | hx
        · exact hy
        · exact h2 x hx
      · refine .inr ⟨k + 1, by simpa using h1, by rw [h2]; omega, ?_⟩
        simpa [Heap.g] using h3
theorem place_cases (l : List S77) (id : Int) : (place l id = -1 ∧ ∀ x ∈ l, x.f0 ≠ id) ∨ ∃ k, k < l.length ∧ place l id = (k : Int) ∧ (Heap.g z77 l k).f0 = id := by
  have h := place_from id l 0
  simpa [place, Lib.idxBy] using h
end Go.Proofs.Ytfkebbkfmchnaaa.Ln

namespace Go.Proofs.Ytfkebbkfmchnaaa.Ln
open Go.RowKit Go.Proofs.Ytfkebbkfmchnaaa.PBase Go.Proofs.Ytfkebbkfmchnaaa.Cat Go.Proofs.Ytfkebbkfmchnaaa.Heap Go.Proofs.YtfkebbkfmchnaaaW.PrintWords Go.Proofs.YtfkebbkfmchnaaaW.PrintLast Go.Proofs.YtfkebbkfmchnaaaW.PrintMore
theorem At.refl (W : World) (v : Value) : At W v v := .inl rfl
theorem At.trans {W W1 : World} {v v1 v2 : Value} (h : At W v v1) (k : At W1 v1 v2) (hs : W.heap.size ≤ W1.heap.size) : At W v v2 := by
  rcases k with k | ⟨b, k, hb⟩
  · rcases h with h | ⟨c, h, hc⟩
    · exact .inl (k.trans h)
    · exact .inr ⟨c, k.trans h, hc⟩
  · exact .inr ⟨b, k, Nat.le_trans hs hb⟩
/-- Where a call leaves a queue. -/
def QGo (W : World) (base B : Nat) (v : Value) (w' : World) (ag rm ct : Int) (L : List S77) : Prop := ∃ v', QS w' base B ag v' rm ct L ∧ Fr (QF B v) W w' ∧ At W v v'
theorem QGo.trans {W W1 W2 : World} {base B : Nat} {v : Value} {ag rm ct ag2 rm2 ct2 : Int} {L L2 : List S77} (h : QGo W base B v W1 ag rm ct L) (k : ∀ v1, QS W1 base B ag v1 rm ct L → QGo W1 base B v1 W2 ag2 rm2 ct2 L2) : QGo W base B v W2 ag2 rm2 ct2 L2 := by
  obtain ⟨v1, h1, h2, h3⟩ := h
  obtain ⟨v2, k1, k2, k3⟩ := k v1 h1
  exact ⟨v2, k1, Fr.then_ h2 k2 (qf_at h3), h3.trans k3 h2.size⟩
theorem QS.go {W w' : World} {base B : Nat} {ag rm ct : Int} {v : Value} {L : List S77} (h : QS W base B ag v rm ct L) (hb : Below W.heap.size W w') : QGo W base B v w' ag rm ct L := ⟨v, h.step hb, Fr.of_below hb, At.refl _ _⟩
set_option maxHeartbeats 4000000 in
set_option maxRecDepth 100000 in
theorem new_bad (a r : Int) (W : World) (h : ¬ ((1 ≤ a ∧ a ≤ 1000) ∧ 0 ≤ r ∧ r ≤ 1000)) : Calls Try.prog 33 #[.int .i64 a, .int .i64 r] W fun e w' => e = .returned (.pointer none) ∧ Below W.heap.size W w' := by
  by_cases h1 : a < 1
  · go_enter Try.func33, Try.ntmps33
    go_wp2
    go_ret
    exact ⟨rfl, Below.refl _ _⟩
  · by_cases h2 : 1000 < a
    · go_enter Try.func33, Try.ntmps33
      go_wp2
      go_ret
      exact ⟨rfl, Below.refl _ _⟩
    · by_cases h3 : r < 0
      · go_enter Try.func33, Try.ntmps33
        go_wp2
        go_ret
        exact ⟨rfl, Below.refl _ _⟩
      · have h4 : 1000 < r := by omega
        go_enter Try.func33, Try.ntmps33
        go_wp2
        go_ret
        exact ⟨rfl, Below.refl _ _⟩
set_option maxHeartbeats 4000000 in
set_option maxRecDepth 100000 in
theorem new_good (a r : Int) (W : World) (h : (1 ≤ a ∧ a ≤ 1000) ∧ 0 ≤ r ∧ r ≤ 1000) : Calls Try.prog 33 #[.int .i64 a, .int .i64 r] W fun e w' => e = .returned (.pointer (some ⟨W.heap.size, 0, none⟩)) ∧ Below W.heap.size W w' ∧ ∃ v, QS w' W.heap.size W.heap.size a v r 0 [] := by
  have h1 : ¬ a < 1 := by omega
  have h2 : ¬ 1000 < a := by omega
  have h3 : ¬ r < 0 := by omega
  have h4 : ¬ 1000 < r := by omega
  go_enter Try.func33, Try.ntmps33
  go_wp2
  go_ret
  exact ⟨rfl, below_alloc (Below.refl _ _) _, .slice none 0 0, blk_new _ _, Nat.le_refl _, own_of_R (xs := []) (Kd.R_nil _ _ _ _ (fun _ => True))⟩
set_option maxHeartbeats 4000000 in
set_option maxRecDepth 100000 in
theorem qlen_calls {W : World} {base B : Nat} {ag rm ct : Int} {v : Value} {L : List S77} (h : QS W base B ag v rm ct L) : Calls Try.prog 58 #[.pointer (some ⟨B, 0, none⟩)] W fun e w' => e = .returned (.int .i64 (L.length : Int)) ∧ Below W.heap.size W w' := by
  go_enter Try.func58, Try.ntmps58
  go_wp2_with (go_at_call 72; refine (len_calls h).mono ?_; rintro e w8 ⟨rfl, n8, rfl⟩)
  go_ret
  exact ⟨rfl, pw_below_drewN (Below.refl _ _) n8⟩
set_option maxHeartbeats 4000000 in
set_option maxRecDepth 100000 in
theorem count_calls {W : World} {base B : Nat} {ag rm ct : Int} {v : Value} {L : List S77} (h : QS W base B ag v rm ct L) : Calls Try.prog 56 #[.pointer (some ⟨B, 0, none⟩)] W fun e w' => e = .returned (.int .i64 ct) ∧ Below W.heap.size W w' := by
  have c3 : W.cell? ⟨B, 3, none⟩ = some (.int .i64 ct) := h.cell 3
  go_enter Try.func56, Try.ntmps56
  go_wp2
  go_ret
  exact ⟨rfl, Below.refl _ _⟩
/-- What Drop leaves. -/
def dropL (ag : Int) (L : List S77) (id : Int) : List S77 := if 0 ≤ place L id then removeL ag L (place L id).toNat else L
set_option maxHeartbeats 4000000 in
set_option maxRecDepth 100000 in
theorem drop_calls {W : World} {base B : Nat} {ag rm ct : Int} {v : Value} {L : List S77} (h : QS W base B ag v rm ct L) (id : Int) (hl : L.length ≤ 100000) :
    Calls Try.prog 41 #[.pointer (some ⟨B, 0, none⟩), .int .i64 id] W fun e w' => e = .returned (.bool (decide (0 ≤ place L id))) ∧ QGo W base B v w' ag rm ct (dropL ag L id) := by
  rcases place_cases L id with ⟨hp, _⟩ | ⟨k, hk, hp, _⟩
  · have e1 : dropL ag L id = L := by unfold dropL; rw [hp]; exact if_neg (by decide)
    rw [e1, hp]
    have hf := find_calls h id
    rw [hp] at hf
    go_enter Try.func41, Try.ntmps41
    go_wp2_with (go_at_call 57; refine hf.mono ?_; rintro e w8 ⟨rfl, hb8⟩)
    go_ret
    exact ⟨rfl, h.go hb8⟩
  · have e1 : dropL ag L id = removeL ag L k := by unfold dropL; rw [hp, if_pos (by omega), Int.toNat_natCast]
    have hf := find_calls h id
    rw [e1, hp, decide_eq_true (show 0 ≤ (k : Int) by omega)]
    rw [hp] at hf
    have h0 : ¬ (k : Int) < 0 := by omega
    go_enter Try.func41, Try.ntmps41
    go_wp2_with (first
      | (go_at_call 57; refine hf.mono ?_; rintro e w8 ⟨rfl, hb8⟩; clear hf)
      | (go_at_call 60; refine (heap_remove_calls (h.step hb8) k hk hl).mono ?_; rintro e w9 ⟨⟨q, rfl⟩, v9, hQ9, hF9, hA9⟩))
    go_ret
    exact ⟨rfl, v9, hQ9, Fr.then_ (Fr.of_below hb8) hF9 (fun _ h => .inl h), .inl hA9⟩
/-- What Put answers. -/
def putE (L : List S77) (rm id cl : Int) : Int := if cl < 0 ∨ 8 ≤ cl then 1 else if 0 ≤ place L id then 8 else if rm ≤ (L.length : Int) then 10 else 0
/-- What Put leaves. -/
def putL (ag rm ct : Int) (L : List S77) (id cl : Int) : List S77 := if putE L rm id cl = 0 then pushL ag L ⟨id, cl, ct⟩ else L
set_option maxHeartbeats 4000000 in
set_option maxRecDepth 100000 in
theorem put_calls {W : World} {base B : Nat} {ag rm ct : Int} {v : Value} {L : List S77} (h : QS W base B ag v rm ct L) (id cl : Int) (hl : L.length ≤ 90000) :
    Calls Try.prog 35 #[.pointer (some ⟨B, 0, none⟩), .int .i64 id, .int .i64 cl] W fun e w' => e = .returned (.int .i64 (putE L rm id cl)) ∧ QGo W base B v w' ag rm ct (putL ag rm ct L id cl) := by
  unfold putL
  by_cases c1 : cl < 0
  · have e1 : putE L rm id cl = 1 := by unfold putE; exact if_pos (.inl c1)
    rw [e1, if_neg (by decide)]
    go_enter Try.func35, Try.ntmps35
    go_wp2
    go_ret
    exact ⟨rfl, h.go (Below.refl _ _)⟩
  by_cases c2 : 8 ≤ cl
  · have e1 : putE L rm id cl = 1 := by unfold putE; exact if_pos (.inr c2)
    rw [e1, if_neg (by decide)]
    go_enter Try.func35, Try.ntmps35
    go_wp2
    go_ret
    exact ⟨rfl, h.go (Below.refl _ _)⟩
  have c3 : ¬ (cl < 0 ∨ 8 ≤ cl) := by omega
  have hf := find_calls h id
  by_cases c4 : 0 ≤ place L id
  · have e1 : putE L rm id cl = 8 := by unfold putE; rw [if_neg c3]; exact if_pos c4
    rw [e1, if_neg (by decide)]
    generalize place L id = p at hf c4
    go_enter Try.func35, Try.ntmps35
    go_wp2_with (go_at_call 57; refine hf.mono ?_; rintro e w8 ⟨rfl, hb8⟩)
    go_ret
    exact ⟨rfl, h.go hb8⟩
  by_cases c5 : rm ≤ (L.length : Int)
  · have e1 : putE L rm id cl = 10 := by unfold putE; rw [if_neg c3, if_neg c4]; exact if_pos c5
    rw [e1, if_neg (by decide)]
    generalize place L id = p at hf c4
    obtain ⟨Q, hQe⟩ : ∃ Q : Int, (L.length : Int) = Q := ⟨_, rfl⟩
    have HE := Aside0.mk hQe
    rw [hQe] at c5
    clear hQe
    go_enter Try.func35, Try.ntmps35
    go_wp2_with (go_at_call 57; refine hf.mono ?_; rintro e w8 ⟨rfl, hb8⟩)
    have h8 := Aside0.mk (h.step hb8)
    have hr8 : w8.cell? ⟨B, 2, none⟩ = some (.int .i64 rm) := h8.out.cell 2
    have hlt8 := h8.out.lt
    go_region_held3 (fun w' => w'.cell? ⟨B, 2, none⟩ = some (.int .i64 rm)) (first | go_keep | exact (hb9.cell (p := ⟨B, 2, none⟩) (by assumption)).trans (by assumption))
      ((go_at_call 58; refine (qlen_calls (h8.out.step (below_drew1 (Below.refl _ _)))).mono ?_; rintro e w9 ⟨rfl, hb9⟩; rw [HE.out]))
    go_wp2
    go_ret
    exact ⟨rfl, h.go (below_step (below_drew1 hb8) hb9)⟩
  · have e1 : putE L rm id cl = 0 := by unfold putE; rw [if_neg c3, if_neg c4]; exact if_neg c5
    rw [e1, if_pos rfl]
    generalize place L id = p at hf c4
    obtain ⟨Q, hQe⟩ : ∃ Q : Int, (L.length : Int) = Q := ⟨_, rfl⟩
    have HE := Aside0.mk hQe
    rw [hQe] at c5
    clear hQe
    go_enter Try.func35, Try.ntmps35
    go_wp2_with (go_at_call 57; refine hf.mono ?_; rintro e w8 ⟨rfl, hb8⟩)
    have h8 := Aside0.mk (h.step hb8)
    have hr8 : w8.cell? ⟨B, 2, none⟩ = some (.int .i64 rm) := h8.out.cell 2
    have hlt8 := h8.out.lt
    go_region_held3 (fun w' => w'.cell? ⟨B, 2, none⟩ = some (.int .i64 rm)) (first | go_keep | exact (hb9.cell (p := ⟨B, 2, none⟩) (by assumption)).trans (by assumption))
      ((go_at_call 58; refine (qlen_calls (h8.out.step (below_drew1 (Below.refl _ _)))).mono ?_; rintro e w9 ⟨rfl, hb9⟩; rw [HE.out]))
    have h9 := Aside0.mk ((h8.out.step (below_drew1 (Below.refl _ _))).step hb9)
    have hr9 : w9.cell? ⟨B, 3, none⟩ = some (.int .i64 ct) := h9.out.cell 3
    go_wp2_with (go_at_call 59; refine (heap_push_calls h9.out ⟨id, cl, ct⟩ (by omega)).mono ?_; rintro e w7 ⟨rfl, v7, hQ7, hF7, hA7⟩)
    go_ret
    have hbb := below_step (below_drew1 hb8) hb9
    exact ⟨rfl, v7, hQ7, Fr.then_ (Fr.of_below hbb) hF7 (fun _ h => .inl h), (At.refl W v).trans hA7 hbb.size⟩
/-- A job, and how it is told. -/
def wv (x : S77) : Value := .agg #[.int .i64 x.f0, .int .i64 x.f1, .int .i64 x.f2]
end Go.Proofs.Ytfkebbkfmchnaaa.Ln

namespace Go.Proofs.Ytfkebbkfmchnaaa.Ln
open Go.RowKit Go.Proofs.Ytfkebbkfmchnaaa.PBase Go.Proofs.Ytfkebbkfmchnaaa.Cat Go.Proofs.Ytfkebbkfmchnaaa.Heap Go.Proofs.YtfkebbkfmchnaaaW.PrintWords Go.Proofs.YtfkebbkfmchnaaaW.PrintLast Go.Proofs.YtfkebbkfmchnaaaW.PrintMore
theorem take_ret {Q : Ending → World → Prop} {tmps : Array Value} {W : World} {x : S77} {e : Int} {g : Nat} (hg : tmps.getD 2 undef = .pointer (some ⟨g, 0, none⟩)) (he : tmps.getD 3 undef = .int .i64 e) (hb : W.heap[g]? = some (.cells #[.int .i64 x.f0, .int .i64 x.f1, .int .i64 x.f2] 77 (0, 0))) (hQ : Q (.returned (.tuple #[wv x, .int .i64 e])) W) : bodyPost Try.prog Try.f36 Q Exit.ret { tmps := tmps, defers := [] } W :=
  bodyPost_ret (v := .tuple #[wv x, .int .i64 e]) (by rw [← he]; exact results_ct (fn := Try.f36) rfl tmps W g 77 _ (0, 0) _ hg hb Try.underlying77 rfl (by kernel_rfl)) rfl hQ
set_option maxHeartbeats 4000000 in
set_option maxRecDepth 100000 in
theorem take_empty {W : World} {base B : Nat} {ag rm ct : Int} {v : Value} (h : QS W base B ag v rm ct []) :
    Calls Try.prog 36 #[.pointer (some ⟨B, 0, none⟩)] W fun e w' => e = .returned (.tuple #[wv z77, .int .i64 12]) ∧ QGo W base B v w' ag rm ct [] := by
  go_enter Try.func36, Try.ntmps36
  go_wp2_with (first
    | ((with_reducible refine gate_dst (N := 2) rfl ?_); refine box_event ?hg (N := 2) ?hd (cs := #[.int .i64 0, .int .i64 0, .int .i64 0]) (t := 77) ?hr ?_; (case hd => rfl); (case hg => rfl); (case hr => first | (go_simp; done) | (go_simp; rfl)); intro g hg w1 hbox hb; have hq := qlen_calls (h.step hb); rw [List.length_nil] at hq; have hge : W.heap.size ≤ g := Nat.le_of_eq hg.symm; clear hg)
    | (go_at_call 58; refine hq.mono ?_; rintro e w8 ⟨rfl, hb8⟩; have hbox8 := Aside0.mk (blk_below hbox hb8); clear hbox; have hs0 := (blk_cell hbox8.out 0).trans rfl; have hs1 := (blk_cell hbox8.out 1).trans rfl; have hs2 := (blk_cell hbox8.out 2).trans rfl; have hf0 := blk_frozen hbox8.out 0; have hf1 := blk_frozen hbox8.out 1; have hf2 := blk_frozen hbox8.out 2))
  exact take_ret (x := z77) rfl rfl (blk_put (blk_put (blk_put hbox8.out 0 _ rfl) 1 _ rfl) 2 _ rfl) ⟨rfl, h.go (below_set (below_set (below_set (below_step hb hb8) hge) hge) hge)⟩
theorem QS.keep {F : Nat → Prop} {W W' : World} {base B : Nat} {ag rm ct : Int} {v : Value} {L : List S77} (h : QS W base B ag v rm ct L) (hF : Fr F W W') (hn : ∀ k, F k → ¬ QF B v k) : QS W' base B ag v rm ct L := by
  refine ⟨(hF.blk B h.lt (fun e => hn B e (.inl rfl))).trans h.blk, h.lb, ?_⟩
  obtain ⟨h1, h2⟩ := h.own
  refine ⟨h1, ?_⟩
  rcases h2 with h2 | ⟨g, cap, cells, rfl, hgb, hgc, hr⟩
  · exact .inl h2
  · exact .inr ⟨g, cap, cells, rfl, hgb, (hF.blk g (Array.getElem?_eq_some_iff.1 hgc).1 (fun e => hn g e (.inr rfl))).trans hgc, hr⟩
theorem Fr.set (W : World) (g j : Nat) (u : Value) : Fr (fun k => k = g) W (W.setCell ⟨g, j, none⟩ u) := ⟨rfl, rfl, rfl, by simp [World.setCell], fun k _ hn => Below.heap_setCell W ⟨g, j, none⟩ u k hn⟩
theorem QS.setCt {W : World} {base B : Nat} {ag rm ct : Int} {v : Value} {L : List S77} (h : QS W base B ag v rm ct L) (ct1 : Int) : QS (W.setCell ⟨B, 3, none⟩ (.int .i64 ct1)) base B ag v rm ct1 L := by
  refine ⟨blk_set h.blk 3 _, h.lb, ?_⟩
  exact own_of_R (Kd.R_set (R_of_own h.own) h.blk (by decide) 3 _)
set_option maxHeartbeats 4000000 in
set_option maxRecDepth 100000 in
theorem take_calls {W : World} {base B : Nat} {ag rm ct : Int} {v : Value} {L : List S77} (h : QS W base B ag v rm ct L) (h0 : 0 < L.length) (hl : L.length ≤ 90000) (ct1 : Int) (hct : IntKind.i64.wrap (ct + 1) = ct1) :
    Calls Try.prog 36 #[.pointer (some ⟨B, 0, none⟩)] W fun e w' => e = .returned (.tuple #[wv (Heap.g z77 L 0), .int .i64 0]) ∧ QGo W base B v w' ag rm ct1 (removeL ag L 0) := by
  obtain ⟨Q, hQe⟩ : ∃ Q : Int, (L.length : Int) = Q := ⟨_, rfl⟩
  have hQ0 : (Q == 0) = false := by rw [beq_eq_false_iff_ne]; omega
  have hQp : 0 < Q := by omega
  have HE := Aside0.mk hQe
  have HQ := Aside0.mk h
  have hBlt := h.lt
  obtain ⟨gr, cap, hv, _, hgl, _⟩ := Kd.R_form (R_of_own h.own) h0
  subst hv
  have hLi : (0 : Int) < (L.length : Int) := by omega
  have hx : ∀ w8, Below W.heap.size W w8 → w8.cell? ⟨gr, 0, none⟩ = some (.int .i64 (Heap.g z77 L 0).f0) ∧ w8.cell? ⟨gr, 1, none⟩ = some (.int .i64 (Heap.g z77 L 0).f1) ∧ w8.cell? ⟨gr, 2, none⟩ = some (.int .i64 (Heap.g z77 L 0).f2) := by
    intro w8 hb8
    have hC := (Kd.R_reads' (R_of_own (h.step hb8).own)).2.2
    obtain ⟨ad, e1, hx0, hx1, hx2⟩ := at_T77 hC 0 (by omega) (by omega)
    injection e1 with e1
    subst e1
    exact ⟨hx0, hx1, hx2⟩
  have hcb := fun w8 hb8 => (h.step (W1 := w8) hb8).cell 1
  have HX := Aside0.mk hx
  have HCB := Aside0.mk hcb
  have hrB : gr ≠ B := fun e => h.ne (by simp [Value.ownBlock, e])
  clear hQe h hx hcb
  have hnq : ∀ k, W.heap.size ≤ k → ¬ QF B (.slice (some ⟨gr, 0, none⟩) L.length cap) k := by
    rintro k hk (e | e)
    · omega
    · have : gr = k := by simpa [Value.ownBlock] using e
      omega
  have HNQ := Aside0.mk hnq
  have HBL := Aside0.mk hBlt
  clear hnq hgl hBlt
  go_enter Try.func36, Try.ntmps36
  go_wp2_with (first
    | ((with_reducible refine gate_dst (N := 2) rfl ?_); refine box_event ?hg (N := 2) ?hd (cs := #[.int .i64 0, .int .i64 0, .int .i64 0]) (t := 77) ?hr ?_; (case hd => rfl); (case hg => rfl); (case hr => first | (go_simp; done) | (go_simp; rfl)); intro g hg w1 hbox hb; have hq := qlen_calls (HQ.out.step hb); rw [HE.out] at hq; have hge := Aside0.mk (Nat.le_of_eq hg.symm : W.heap.size ≤ g); clear hg; have HBX := Aside0.mk hbox; clear hbox)
    | (go_at_call 58; refine hq.mono ?_; rintro e w8 ⟨rfl, hb8⟩; clear hq; have HBX8 := Aside0.mk (blk_below HBX.out hb8); have hb9 := Aside0.mk (below_step hb hb8); clear hb hb8; have c1 := (HCB.out w8 hb9.out).trans rfl; have c2 := HX.out w8 hb9.out; obtain ⟨c20, c21, c22⟩ := c2)
    | (go_at_call 60; refine (heap_remove_calls (HQ.out.step (below_alloc hb9.out _)) 0 h0 (by omega)).mono ?_; rintro e w9 ⟨⟨q, rfl⟩, v9, hQ9, hF9, hA9⟩; have HG8 := Aside0.mk (blk_lt HBX8.out); have HG := Aside0.mk ((hF9.blk g (Nat.lt_of_lt_of_le HG8.out (below_alloc (Below.refl w8.heap.size w8) _).size) (HNQ.out g hge.out)).trans (((below_alloc (Below.refl w8.heap.size w8) _).block g HG8.out).trans HBX8.out)); have HG4 := Aside0.mk ((hF9.blk w8.heap.size (blk_lt (blk_new w8 _)) (HNQ.out _ hb9.out.size)).trans (blk_new w8 _)); have HF9 := Aside0.mk (Fr.then_ (Fr.of_below (below_alloc hb9.out _)) hF9 (fun _ h => .inl h)); have HQ9 := Aside0.mk hQ9; have hn1 : g ≠ w8.heap.size := Nat.ne_of_lt HG8.out; have hn2 : B ≠ w8.heap.size := Nat.ne_of_lt (Nat.lt_of_lt_of_le HBL.out hb9.out.size); have hn3 : B ≠ g := Nat.ne_of_lt (Nat.lt_of_lt_of_le HBL.out hge.out); clear hQ9 hF9; generalize w8.heap.size = g4 at hn1 hn2 HG4 ⊢; have hs3 := (HQ9.out.cell 3).trans rfl; have hf3 := blk_frozen HQ9.out.blk 3; have ha0 := (blk_cell HG4.out 0).trans rfl; have ha1 := (blk_cell HG4.out 1).trans rfl; have ha2 := (blk_cell HG4.out 2).trans rfl; have hs0 := (blk_cell HG.out 0).trans rfl; have hs1 := (blk_cell HG.out 1).trans rfl; have hs2 := (blk_cell HG.out 2).trans rfl; have hf0 := blk_frozen HG.out 0; have hf1 := blk_frozen HG.out 1; have hf2 := blk_frozen HG.out 2))
  have hset : Fr (fun k => k = g) (w9.setCell ⟨B, 3, none⟩ (.int .i64 ct1)) ((((w9.setCell ⟨B, 3, none⟩ (.int .i64 ct1)).setCell ⟨g, 0, none⟩ (.int .i64 (Heap.g z77 L 0).f0)).setCell ⟨g, 1, none⟩ (.int .i64 (Heap.g z77 L 0).f1)).setCell ⟨g, 2, none⟩ (.int .i64 (Heap.g z77 L 0).f2)) :=
    Fr.then_ (Fr.then_ (Fr.set _ g 0 _) (Fr.set _ g 1 _) (fun _ h => .inl h)) (Fr.set _ g 2 _) (fun _ h => .inl h)
  exact take_ret (x := Heap.g z77 L 0) rfl rfl (blk_put (blk_put (blk_put (blk_far HG.out (p := ⟨B, 3, none⟩) hn3.symm _) 0 _ rfl) 1 _ rfl) 2 _ rfl)
    ⟨rfl, v9, (HQ9.out.setCt ct1).keep hset (fun k hk q => HNQ.out k (hk ▸ hge.out) (qf_same hA9 k q)),
      Fr.then_ (Fr.then_ HF9.out Fr.put (fun _ h => .inl h)) hset (fun k hk => .inr (hk ▸ hge.out)), .inl hA9⟩
end Go.Proofs.Ytfkebbkfmchnaaa.Ln

namespace Go.Proofs
open Go.Shelf Go.RowKit Go.Lib Go.Sort
shelf_lay_g SlLaysF0.n6 Slsf 6 at Try 67 as Try.sortFunc
end Go.Proofs
namespace Go.Proofs.Ytfkebbkfmchnaaa.Ln
open Go.Shelf Go.Lib Go.Sort Go.RowKit Go.Proofs.Ytfkebbkfmchnaaa.PBase Go.Proofs.Ytfkebbkfmchnaaa.Cat Go.Proofs.Ytfkebbkfmchnaaa.Heap Go.Proofs.Ytfkebbkfmchnaaa.Dr Go.Proofs.YtfkebbkfmchnaaaW.PrintWords Go.Proofs.YtfkebbkfmchnaaaW.PrintLast Go.Proofs.YtfkebbkfmchnaaaW.PrintMore
/-- A job's turn. -/
def tv (ag : Int) (x : S77) : Int := (turn_Turn.f ag x.f0 x.f1 x.f2).getD 0
theorem tv_is (ag : Int) (x : S77) : turn_Turn.f ag x.f0 x.f1 x.f2 = some (tv ag x) := by
  have h1 : ∀ x y z, ∃ r, turn_in.f x y z = some r := fun x y z => by unfold turn_in.f; split <;> exact ⟨_, rfl⟩
  have h2 : ∀ x y z, ∃ r, turn_Good.f x y z = some r := fun x y z => by
    unfold turn_Good.f
    obtain ⟨r, hr⟩ := h1 y 0 7
    obtain ⟨r2, hr2⟩ := h1 z 0 1099511627776
    rw [hr, Option.bind_some, hr2]
    cases r <;> exact ⟨_, rfl⟩
  have h3 : ∃ r, turn_Turn.f ag x.f0 x.f1 x.f2 = some r := by
    unfold turn_Turn.f
    obtain ⟨r, hr⟩ := h2 x.f0 x.f1 x.f2
    obtain ⟨r2, hr2⟩ := h1 ag 1 1000
    rw [hr, Option.bind_some, hr2]
    cases r <;> cases r2 <;> exact ⟨_, rfl⟩
  obtain ⟨r, hr⟩ := h3
  unfold tv
  rw [hr]
  rfl
theorem lt_iff (ag : Int) (a b : S77) : lt ag a b = true ↔ tv ag a < tv ag b ∨ (tv ag a = tv ag b ∧ a.f0 < b.f0) := by
  have h := lt_is ag a b
  unfold turn_Less.f at h
  rw [tv_is, tv_is, Option.bind_some, Option.bind_some] at h
  by_cases c1 : tv ag a < tv ag b
  · rw [if_pos c1] at h
    have := Option.some.inj h
    rw [← this]
    simp [c1]
  · rw [if_neg c1] at h
    by_cases c2 : tv ag a = tv ag b
    · rw [if_pos c2] at h
      have := Option.some.inj h
      rw [← this]
      simp [c2]
    · rw [if_neg c2] at h
      have := Option.some.inj h
      rw [← this]
      simp [c1, c2]
theorem lt_false (ag : Int) (a b : S77) : lt ag a b = false ↔ ¬ (tv ag a < tv ag b ∨ (tv ag a = tv ag b ∧ a.f0 < b.f0)) := by rw [← lt_iff]; simp
theorem lt_swo (ag : Int) : SWO (lt ag) := by
  refine ⟨fun x => ?_, fun x y z h1 h2 => ?_, fun x y z h1 h2 => ?_⟩
  · rw [lt_false]; omega
  · rw [lt_iff] at *; omega
  · rw [lt_false] at *; omega
theorem lt_ord (ag : Int) : Heap.Ord (lt ag) := by
  refine ⟨fun {a b c} h1 h2 => ?_, fun {a b} h => ?_⟩
  · unfold nb at *
    rw [lt_false] at *; omega
  · unfold nb
    rw [lt_false]; rw [lt_iff] at h; omega
/-- What the list's comparison tells. -/
def cf (ag : Int) (a b : S77) : Int := if lt ag a b = true then -1 else if lt ag b a = true then 1 else 0
theorem ltOf_cf (ag : Int) : ltOf (cf ag) = lt ag := by
  funext a b
  unfold ltOf cf
  cases lt ag a b with
  | true => rfl
  | false =>
    cases lt ag b a <;> rfl
set_option maxHeartbeats 4000000 in
set_option maxRecDepth 100000 in
theorem cmp_calls (ag : Int) (a b : S77) (bq B : Nat) (W : World) (hq : W.cell? ⟨bq, 0, none⟩ = some (.pointer (some ⟨B, 0, none⟩))) (hB : W.cell? ⟨B, 0, none⟩ = some (.int .i64 ag)) :
    Calls Try.prog 68 #[.agg #[.int .i64 a.f0, .int .i64 a.f1, .int .i64 a.f2], .agg #[.int .i64 b.f0, .int .i64 b.f1, .int .i64 b.f2], .pointer (some ⟨bq, 0, none⟩)] W fun e w' => e = .returned (.int .i64 (cf ag a b)) ∧ DBelow W.heap.size W w' := by
  have h1 := fun w h => Dr.turn_Less.calls ag a.f0 a.f1 a.f2 b.f0 b.f1 b.f2 (lt ag a b) w h
  have h2 := fun w h => Dr.turn_Less.calls ag b.f0 b.f1 b.f2 a.f0 a.f1 a.f2 (lt ag b a) w h
  have H1 := Aside0.mk (fun w => h1 w (lt_is ag a b))
  have H2 := Aside0.mk (fun w => h2 w (lt_is ag b a))
  clear h1 h2
  unfold cf
  obtain ⟨g, hg⟩ : ∃ g, g = W.heap.size := ⟨_, rfl⟩
  obtain ⟨k, hk⟩ : ∃ k, k = g + 1 := ⟨_, rfl⟩
  have hbq := World.block_lt_of_cell? W _ hq
  have hBl := World.block_lt_of_cell? W _ hB
  have hb0 : DBelow W.heap.size W ((W.alloc (.cells #[.int .i64 a.f0, .int .i64 a.f1, .int .i64 a.f2] 77)).alloc (.cells #[.int .i64 b.f0, .int .i64 b.f1, .int .i64 b.f2] 77)) := dbelow_alloc (dbelow_alloc (DBelow.refl _ _) _) _
  have hs : ((W.alloc (.cells #[.int .i64 a.f0, .int .i64 a.f1, .int .i64 a.f2] 77)).alloc (.cells #[.int .i64 b.f0, .int .i64 b.f1, .int .i64 b.f2] 77)).heap.size = k + 1 := by simp [hk, hg]
  have hS : ∀ w', DBelow (k + 1) ((W.alloc (.cells #[.int .i64 a.f0, .int .i64 a.f1, .int .i64 a.f2] 77)).alloc (.cells #[.int .i64 b.f0, .int .i64 b.f1, .int .i64 b.f2] 77)) w' → w'.cell? ⟨bq, 0, none⟩ = some (.pointer (some ⟨B, 0, none⟩)) ∧ w'.cell? ⟨B, 0, none⟩ = some (.int .i64 ag) ∧ w'.cell? ⟨g, 0, none⟩ = some (.int .i64 a.f0) ∧ w'.cell? ⟨g, 1, none⟩ = some (.int .i64 a.f1) ∧ w'.cell? ⟨g, 2, none⟩ = some (.int .i64 a.f2) ∧ w'.cell? ⟨k, 0, none⟩ = some (.int .i64 b.f0) ∧ w'.cell? ⟨k, 1, none⟩ = some (.int .i64 b.f1) ∧ w'.cell? ⟨k, 2, none⟩ = some (.int .i64 b.f2) := by
    intro w' hw
    have e : ∀ p j, p < k + 1 → w'.cell? ⟨p, j, none⟩ = ((W.alloc (.cells #[.int .i64 a.f0, .int .i64 a.f1, .int .i64 a.f2] 77)).alloc (.cells #[.int .i64 b.f0, .int .i64 b.f1, .int .i64 b.f2] 77)).cell? ⟨p, j, none⟩ := fun p j hp => hw.b.cell (p := ⟨p, j, none⟩) hp
    refine ⟨?_, ?_, ?_, ?_, ?_, ?_, ?_, ?_⟩
    · rw [e bq 0 (by have : bq < W.heap.size := hbq; omega)]; exact (hb0.b.cell (p := ⟨bq, 0, none⟩) hbq).trans hq
    · rw [e B 0 (by have : B < W.heap.size := hBl; omega)]; exact (hb0.b.cell (p := ⟨B, 0, none⟩) hBl).trans hB
    all_goals (rw [e _ _ (by omega)]; subst hk; subst hg; simp)
  have HS := Aside0.mk hS
  have HB0 := Aside0.mk hb0
  have HSZ := Aside0.mk hs
  clear hS hb0 hs hq hB hbq hBl
  cases h : lt ag a b with
  | true =>
    rw [h] at H1
    go_enter Try.func68, Try.ntmps68
    go_wp2
    rw [← hg, ← hk]
    generalize ((W.alloc (.cells #[.int .i64 a.f0, .int .i64 a.f1, .int .i64 a.f2] 77)).alloc (.cells #[.int .i64 b.f0, .int .i64 b.f1, .int .i64 b.f2] 77)) = W0 at HS HB0 HSZ ⊢
    clear hg hk
    have hS0 := HS.out W0 (DBelow.refl _ _)
    go_region_held3 (fun w' => w'.cell? ⟨bq, 0, none⟩ = some (.pointer (some ⟨B, 0, none⟩)) ∧ w'.cell? ⟨B, 0, none⟩ = some (.int .i64 ag) ∧ w'.cell? ⟨g, 0, none⟩ = some (.int .i64 a.f0) ∧ w'.cell? ⟨g, 1, none⟩ = some (.int .i64 a.f1) ∧ w'.cell? ⟨g, 2, none⟩ = some (.int .i64 a.f2) ∧ w'.cell? ⟨k, 0, none⟩ = some (.int .i64 b.f0) ∧ w'.cell? ⟨k, 1, none⟩ = some (.int .i64 b.f1) ∧ w'.cell? ⟨k, 2, none⟩ = some (.int .i64 b.f2)) (first | go_keep | exact HS.out _ (HSZ.out ▸ (dbelow_step (dbelow_drew1 (DBelow.refl _ _)) hb7)))
      ((go_at_call 69; refine (H1.out _).mono ?_; rintro e w7 ⟨rfl, hb7⟩))
    go_wp2
    go_ret
    exact ⟨rfl, dbelow_step HB0.out (dbelow_step (dbelow_drew1 (DBelow.refl _ _)) hb7)⟩
  | false =>
    rw [h] at H1
    cases h2 : lt ag b a with
    | true =>
      rw [h2] at H2
      go_enter Try.func68, Try.ntmps68
      go_wp2
      rw [← hg, ← hk]
      generalize ((W.alloc (.cells #[.int .i64 a.f0, .int .i64 a.f1, .int .i64 a.f2] 77)).alloc (.cells #[.int .i64 b.f0, .int .i64 b.f1, .int .i64 b.f2] 77)) = W0 at HS HB0 HSZ ⊢
      clear hg hk
      have hS0 := HS.out W0 (DBelow.refl _ _)
      go_region_held3 (fun w' => w'.cell? ⟨bq, 0, none⟩ = some (.pointer (some ⟨B, 0, none⟩)) ∧ w'.cell? ⟨B, 0, none⟩ = some (.int .i64 ag) ∧ w'.cell? ⟨g, 0, none⟩ = some (.int .i64 a.f0) ∧ w'.cell? ⟨g, 1, none⟩ = some (.int .i64 a.f1) ∧ w'.cell? ⟨g, 2, none⟩ = some (.int .i64 a.f2) ∧ w'.cell? ⟨k, 0, none⟩ = some (.int .i64 b.f0) ∧ w'.cell? ⟨k, 1, none⟩ = some (.int .i64 b.f1) ∧ w'.cell? ⟨k, 2, none⟩ = some (.int .i64 b.f2)) (first | go_keep | exact HS.out _ (HSZ.out ▸ (dbelow_step (dbelow_drew1 (DBelow.refl _ _)) hb7)))
        ((go_at_call 69; refine (H1.out _).mono ?_; rintro e w7 ⟨rfl, hb7⟩))
      have hb7' := Aside0.mk (dbelow_step (dbelow_drew1 (DBelow.refl _ _)) hb7)
      have hS7 := HS.out w7 (HSZ.out ▸ hb7'.out)
      clear hS0 hb7
      go_wp2
      go_region_held3 (fun w' => w'.cell? ⟨bq, 0, none⟩ = some (.pointer (some ⟨B, 0, none⟩)) ∧ w'.cell? ⟨B, 0, none⟩ = some (.int .i64 ag) ∧ w'.cell? ⟨g, 0, none⟩ = some (.int .i64 a.f0) ∧ w'.cell? ⟨g, 1, none⟩ = some (.int .i64 a.f1) ∧ w'.cell? ⟨g, 2, none⟩ = some (.int .i64 a.f2) ∧ w'.cell? ⟨k, 0, none⟩ = some (.int .i64 b.f0) ∧ w'.cell? ⟨k, 1, none⟩ = some (.int .i64 b.f1) ∧ w'.cell? ⟨k, 2, none⟩ = some (.int .i64 b.f2)) (first | go_keep | exact HS.out _ (HSZ.out ▸ (dbelow_step hb7'.out (dbelow_step (dbelow_drew1 (DBelow.refl _ _)) hb8))))
        ((go_at_call 69; refine (H2.out _).mono ?_; rintro e w8 ⟨rfl, hb8⟩))
      go_wp2
      go_ret
      exact ⟨rfl, dbelow_step HB0.out (dbelow_step hb7'.out (dbelow_step (dbelow_drew1 (DBelow.refl _ _)) hb8))⟩
    | false =>
      rw [h2] at H2
      go_enter Try.func68, Try.ntmps68
      go_wp2
      rw [← hg, ← hk]
      generalize ((W.alloc (.cells #[.int .i64 a.f0, .int .i64 a.f1, .int .i64 a.f2] 77)).alloc (.cells #[.int .i64 b.f0, .int .i64 b.f1, .int .i64 b.f2] 77)) = W0 at HS HB0 HSZ ⊢
      clear hg hk
      have hS0 := HS.out W0 (DBelow.refl _ _)
      go_region_held3 (fun w' => w'.cell? ⟨bq, 0, none⟩ = some (.pointer (some ⟨B, 0, none⟩)) ∧ w'.cell? ⟨B, 0, none⟩ = some (.int .i64 ag) ∧ w'.cell? ⟨g, 0, none⟩ = some (.int .i64 a.f0) ∧ w'.cell? ⟨g, 1, none⟩ = some (.int .i64 a.f1) ∧ w'.cell? ⟨g, 2, none⟩ = some (.int .i64 a.f2) ∧ w'.cell? ⟨k, 0, none⟩ = some (.int .i64 b.f0) ∧ w'.cell? ⟨k, 1, none⟩ = some (.int .i64 b.f1) ∧ w'.cell? ⟨k, 2, none⟩ = some (.int .i64 b.f2)) (first | go_keep | exact HS.out _ (HSZ.out ▸ (dbelow_step (dbelow_drew1 (DBelow.refl _ _)) hb7)))
        ((go_at_call 69; refine (H1.out _).mono ?_; rintro e w7 ⟨rfl, hb7⟩))
      have hb7' := Aside0.mk (dbelow_step (dbelow_drew1 (DBelow.refl _ _)) hb7)
      have hS7 := HS.out w7 (HSZ.out ▸ hb7'.out)
      clear hS0 hb7
      go_wp2
      go_region_held3 (fun w' => w'.cell? ⟨bq, 0, none⟩ = some (.pointer (some ⟨B, 0, none⟩)) ∧ w'.cell? ⟨B, 0, none⟩ = some (.int .i64 ag) ∧ w'.cell? ⟨g, 0, none⟩ = some (.int .i64 a.f0) ∧ w'.cell? ⟨g, 1, none⟩ = some (.int .i64 a.f1) ∧ w'.cell? ⟨g, 2, none⟩ = some (.int .i64 a.f2) ∧ w'.cell? ⟨k, 0, none⟩ = some (.int .i64 b.f0) ∧ w'.cell? ⟨k, 1, none⟩ = some (.int .i64 b.f1) ∧ w'.cell? ⟨k, 2, none⟩ = some (.int .i64 b.f2)) (first | go_keep | exact HS.out _ (HSZ.out ▸ (dbelow_step hb7'.out (dbelow_step (dbelow_drew1 (DBelow.refl _ _)) hb8))))
        ((go_at_call 69; refine (H2.out _).mono ?_; rintro e w8 ⟨rfl, hb8⟩))
      go_wp2
      go_ret
      exact ⟨rfl, dbelow_step HB0.out (dbelow_step hb7'.out (dbelow_step (dbelow_drew1 (DBelow.refl _ _)) hb8))⟩
end Go.Proofs.Ytfkebbkfmchnaaa.Ln

namespace Go.Proofs.Ytfkebbkfmchnaaa.Ln
open Go.Shelf Go.Lib Go.Sort Go.RowKit Go.Proofs.Ytfkebbkfmchnaaa.PBase Go.Proofs.Ytfkebbkfmchnaaa.Cat Go.Proofs.Ytfkebbkfmchnaaa.Heap Go.Proofs.Ytfkebbkfmchnaaa.Dr Go.Proofs.YtfkebbkfmchnaaaW.PrintWords Go.Proofs.YtfkebbkfmchnaaaW.PrintLast Go.Proofs.YtfkebbkfmchnaaaW.PrintMore
/-- The flat row is the list's cells. -/
theorem flatK_flat (ys : List S77) : flatK enc 3 ys.toArray = (flat ys).toArray := by
  apply ext_get! (by simp [flat_len])
  intro t ht
  have ht' : t < ys.length * 3 := by simpa using ht
  rw [get_flatK _ _ _ t (by simpa using ht')]
  have hj : t / 3 < ys.length := by omega
  have h3 : ((flat ys).drop (t / 3 * 3)).take 3 = enc ys[t / 3] := (reps_flat (R := fun x cs => cs = enc x) (fun x => rfl) ys).2 (t / 3) _ (List.getElem?_eq_getElem hj)
  have hf : t < (flat ys).length := by rw [flat_len]; exact ht'
  have hm : t % 3 < 3 := Nat.mod_lt _ (by decide)
  have h4 : (enc ys[t / 3])[t % 3]? = (flat ys)[t]? := by
    rw [← h3, List.getElem?_take, if_pos hm, List.getElem?_drop]
    congr 1
    omega
  have e1 : ys.toArray[t / 3]! = ys[t / 3] := by rw [getElem!_pos _ _ (by simpa using hj)]; simp
  rw [e1]
  show (enc ys[t / 3])[t % 3]! = _
  rw [List.getElem!_eq_getElem?_getD, h4, getElem!_pos _ _ (by simpa using hf), List.getElem?_eq_getElem hf]
  simp
theorem sorted_heap {w : World} {g : Nat} {cur : Array Value} (hh : w.heap[g]? = some (.cells cur 77 (0, 0))) (m : Nat) (ys : List S77) (os : Array Obj) :
    (sortWorldK enc 3 w g 0 m ys.toArray os).heap[g]? = some (.cells (putCells id 0 (flat ys).toArray cur) 77 (0, 0)) := by
  have hlt : g < w.heap.size := (Array.getElem?_eq_some_iff.1 hh).1
  unfold sortWorldK putRowK putRow
  rw [flatK_flat]
  show ((w.heap.modify g (onCells (putCells id 0 (flat ys).toArray))) ++ os)[g]? = _
  rw [Array.getElem?_append_left (by simpa using hlt), Array.getElem?_modify, if_pos rfl, hh]
  rfl
theorem own_sorted {w : World} {base g n cap : Nat} {xs ys : List S77} (ho : w.ownsRow base 77 3 (.slice (some ⟨g, 0, none⟩) n cap) n (flat xs)) (hl : ys.length = n) (m : Nat) (os : Array Obj) :
    (sortWorldK enc 3 w g 0 m ys.toArray os).ownsRow base 77 3 (.slice (some ⟨g, 0, none⟩) n cap) n (flat ys) := by
  obtain ⟨h1, h2⟩ := ho
  refine ⟨by rw [flat_len, hl], ?_⟩
  rcases h2 with ⟨h, _⟩ | ⟨g', cap', cur, he, hb, hh, hn, hc, hs, ht⟩
  · cases h
  · injection he with e1 _ e2
    injection e1 with e1
    injection e1 with e1
    subst e1; subst e2
    refine .inr ⟨g, cap, _, rfl, hb, sorted_heap hh m ys os, hn, hc, by simp [putCells, hs], ?_⟩
    apply List.ext_getElem?
    intro j
    rw [List.getElem?_take]
    split
    · rename_i hj
      have hjc : j < cur.size := by rw [hs]; exact Nat.lt_of_lt_of_le hj (Nat.mul_le_mul_right _ hn)
      have hjf : j < (flat ys).length := by rw [flat_len, hl]; exact hj
      rw [Array.getElem?_toList]
      unfold putCells
      rw [Array.getElem?_mapIdx, Array.getElem?_eq_getElem hjc]
      simp only [Option.map_some]
      rw [if_pos ⟨Nat.zero_le _, by simpa using hjf⟩, List.getElem?_eq_getElem hjf]
      simp [hjf]
    · rename_i hj
      rw [List.getElem?_eq_none (by rw [flat_len, hl]; omega)]
theorem below_sorted {w : World} {base g : Nat} (hb : base ≤ g) (hg : g < w.heap.size) (m : Nat) (ys : List S77) (os : Array Obj) : Below base w (sortWorldK enc 3 w g 0 m ys.toArray os) := by
  refine ⟨rfl, rfl, rfl, size_sortWorldK_c enc 3 w g 0 m ys.toArray os, fun k hk => ?_⟩
  unfold sortWorldK putRowK putRow
  show ((w.heap.modify g _) ++ os)[k]? = _
  rw [Array.getElem?_append_left (by simp; omega), Array.getElem?_modify, if_neg (by omega)]
theorem holds_own {w : World} {base g n cap : Nat} {xs : List S77} (ho : w.ownsRow base 77 3 (.slice (some ⟨g, 0, none⟩) n cap) n (flat xs)) : HoldsK enc 3 w g 0 xs.toArray := by
  unfold HoldsK
  rw [flatK_flat]
  obtain ⟨h1, h2⟩ := ho
  rcases h2 with ⟨h, _⟩ | ⟨g', cap', cur, he, hb, hh, hn, hc, hs, ht⟩
  · cases h
  · injection he with e1 _ e2
    injection e1 with e1
    injection e1 with e1
    subst e1; subst e2
    intro j hj
    have hjf : j < (flat xs).length := by simpa using hj
    refine ⟨?_, blk_frozen hh _⟩
    rw [cell_of_row w g _ cur 77 (0, 0) hh, Nat.zero_add]
    have h3 : (cur.toList.take (n * 3))[j]? = (flat xs)[j]? := by rw [ht]
    rw [List.getElem?_take, if_pos (by rw [← h1]; exact hjf), Array.getElem?_toList, List.getElem?_eq_getElem hjf] at h3
    rw [h3]
    simp [hjf]
theorem sorted_keep {w : World} {g k : Nat} (hk : k < w.heap.size) (hne : k ≠ g) (m : Nat) (dk : Array S77) (os : Array Obj) : (sortWorldK enc 3 w g 0 m dk os).heap[k]? = w.heap[k]? := by
  unfold sortWorldK putRowK putRow
  show ((w.heap.modify g _) ++ os)[k]? = _
  rw [Array.getElem?_append_left (by simp; omega), Array.getElem?_modify, if_neg (by omega)]
/-- In order. -/
def Sorted (ag : Int) (M : List S77) : Prop := M.Pairwise (fun a b => lt ag b a = false)
theorem sorted_of {ag : Int} {l : List S77} {d' : Array S77} (hp : PermIn 0 l.toArray.size l.toArray d') (hs : SortedIn (lt ag) 0 l.toArray.size d') : d'.toList.Perm l ∧ Sorted ag d'.toList := by
  obtain ⟨h1, _, h3⟩ := hp
  have e1 : d'.extract 0 l.toArray.size = d' := by rw [← h1]; exact Array.extract_size
  have e2 : l.toArray.extract 0 l.toArray.size = l.toArray := Array.extract_size
  rw [e1, e2] at h3
  refine ⟨h3, ?_⟩
  unfold Sorted
  rw [List.pairwise_iff_getElem]
  intro i j hi hj hij
  have h := hs i j (Nat.zero_le _) hij (by rw [← h1]; simpa using hj)
  rw [getElem!_pos d' j (by simpa using hj), getElem!_pos d' i (by simpa using hi)] at h
  simpa using h
theorem sortfunc_calls (ag : Int) (bq B : Nat) (g cap base : Nat) (l : List S77) (w : World) (ho : w.ownsRow base 77 3 (.slice (some ⟨g, 0, none⟩) l.length cap) l.length (flat l)) (hg : g < w.heap.size) (hn : l.length ≤ 1000000) (hq : w.cell? ⟨bq, 0, none⟩ = some (.pointer (some ⟨B, 0, none⟩))) (hB : w.cell? ⟨B, 0, none⟩ = some (.int .i64 ag)) (hqg : bq ≠ g) (hBg : B ≠ g) :
    Calls Try.prog 67 #[.slice (some ⟨g, 0, none⟩) l.length cap, .func (.func 68) #[] #[.pointer (some ⟨bq, 0, none⟩)]] w fun e w' => e = .returned (.tuple #[]) ∧ ∃ M m os, M.Perm l ∧ Sorted ag M ∧ w' = sortWorldK enc 3 w g 0 m M.toArray os := by
  have hbq : bq < w.heap.size := World.block_lt_of_cell? w _ hq
  have hbB : B < w.heap.size := World.block_lt_of_cell? w _ hB
  have h := AnyQ.slices_SortFunc Try.sortFunc 3 Try.isAgg77 Try.sizeOf77 enc (fun _ => rfl) (fun x v hv => by simp [enc] at hv; rcases hv with rfl | rfl | rfl <;> rfl) (cf ag) (by rw [ltOf_cf]; exact lt_swo ag) 68 #[.pointer (some ⟨bq, 0, none⟩)] g 0 cap l.toArray w (enters_of Try.func68 (by kernel_rfl) rfl)
    (fun m os dk _ x y => (cmp_calls ag x y bq B _ ((World.cell?_of_block (sorted_keep hbq hqg m dk os)).trans hq) ((World.cell?_of_block (sorted_keep hbB hBg m dk os)).trans hB)).mono (fun e w' he => ⟨he.1, he.2.grown⟩)) (holds_own ho) hg (by simp; omega)
  rw [ltOf_cf] at h
  refine h.mono ?_
  rintro e w' ⟨rfl, d', n, os, h1, h2, h3⟩
  obtain ⟨k1, k2⟩ := sorted_of h1 h2
  exact ⟨rfl, d'.toList, n, os, k1, k2, h3⟩
theorem clone_walk (A0 : Option Addr) (c0 : Nat) (l : List S77) (w : World) (hr0 : Kd.C k77 w A0 l.length l) (hn : l.length ≤ 1000000) :
    Calls Try.prog 66 #[.slice A0 l.length c0] w fun e w' => ∃ v0_, e = .returned v0_ ∧ Kd.R k77 77 w' w.heap.size (fun _ => True) v0_ l ∧ Below w.heap.size w w' := by
  cases A0 with
  | none =>
    have h0 : l.length = 0 := by
      rcases Nat.eq_zero_or_pos l.length with h | h
      · exact h
      · obtain ⟨ad, he, _⟩ := hr0.2.2 h
        cases he
    obtain rfl := List.eq_nil_of_length_eq_zero h0
    have heq := fun W => Lib.run_eql_slice_nil (P := Try.prog) W 63 77 none 0 c0 0 0 Try.underlying63
    go_enter Try.func66, Try.ntmps66
    go_wp2
    go_ret
    exact ⟨_, rfl, Kd.R_nil _ _ _ _ _, Below.refl _ _⟩
  | some ad =>
    have HR0 := Aside0.mk hr0
    clear hr0
    have heq := fun W => Lib.run_eql_slice_nil (P := Try.prog) W 63 77 (some ad) l.length c0 0 0 Try.underlying63
    have HB := below_alloc (Below.refl w.heap.size w) (.cells #[] 77)
    have HL : Kd.R k77 77 (w.alloc (.cells #[] 77)) w.heap.size (fun _ => True) (.slice (some ⟨w.heap.size, 0, none⟩) 0 0) [] := ⟨fun _ _ => trivial, OwnRow.lit w w.heap.size (inner := []) (Reps.none _ _) (Nat.le_refl _) (by simp)⟩
    obtain ⟨v1, w1, hrun, h1, h2⟩ := run_rows 63 (some ad) l.length c0 l HL (Kd.C_below HR0.out HB) HB.size (by simp; omega)
    go_enter Try.func66, Try.ntmps66
    go_wp2_with (at_builtin; refine Lib.wpList_append_run _ (by rfl) (.tmp 5) (.tmp 6) 63 63 (by rfl) (.slice (some ⟨w.heap.size, 0, none⟩) 0 0) (.slice (some ad) l.length c0) (by rfl) (by rfl) v1 w1 hrun ?_)
    go_ret
    exact ⟨_, rfl, h1, HB.trans h2⟩
set_option maxHeartbeats 4000000 in
set_option maxRecDepth 100000 in
theorem list_calls {W : World} {base B : Nat} {ag rm ct : Int} {v : Value} {L : List S77} (h : QS W base B ag v rm ct L) (hl : L.length ≤ 100000) :
    Calls Try.prog 55 #[.pointer (some ⟨B, 0, none⟩)] W fun e w' => ∃ v0_ M, e = .returned v0_ ∧ M.Perm L ∧ Sorted ag M ∧ Kd.R k77 77 w' W.heap.size (fun _ => True) v0_ M ∧ RowKit.Below W.heap.size W w' := by
  obtain ⟨A, c, hv, _, hC⟩ := Kd.R_reads (R_of_own h.own)
  subst hv
  have c1 : W.cell? ⟨B, 1, none⟩ = some (.slice A L.length c) := h.cell 1
  have c0 : W.cell? ⟨B, 0, none⟩ = some (.int .i64 ag) := h.cell 0
  have hlt := h.lt
  have hne : B ≠ W.heap.size := by omega
  have HQ := Aside0.mk h
  clear h
  have hb1 : RowKit.Below W.heap.size W (W.alloc (.cells #[.pointer (some ⟨B, 0, none⟩)] 66)) := below_alloc (Below.refl W.heap.size W) _
  have HB1 := Aside0.mk hb1
  have HC := Aside0.mk (Kd.C_below hC hb1)
  have hsz : (W.alloc (.cells #[.pointer (some ⟨B, 0, none⟩)] 66)).heap.size = W.heap.size + 1 := by simp
  have HSZ := Aside0.mk hsz
  have hq0 : (W.alloc (.cells #[.pointer (some ⟨B, 0, none⟩)] 66)).cell? ⟨W.heap.size, 0, none⟩ = some (.pointer (some ⟨B, 0, none⟩)) := by simp
  have HQ0 := Aside0.mk hq0
  have HC0 := Aside0.mk ((hb1.cell (p := ⟨B, 0, none⟩) hlt).trans c0)
  clear hb1 hC c0 hsz hq0
  by_cases h0 : 0 < L.length
  · go_enter Try.func55, Try.ntmps55
    go_wp2_with (first
      | (go_at_call 66; refine (clone_walk A c L _ HC.out (by omega)).mono ?_; rintro e w1 ⟨v, rfl, HV, hb⟩; obtain ⟨g, cap, rfl, hgb, hgl, _⟩ := Kd.R_form HV h0; have HV := Aside0.mk HV)
      | (go_at_call 67; refine (sortfunc_calls ag W.heap.size B g cap _ L w1 (own_of_R HV.out) hgl (by omega) ((hb.cell (p := ⟨W.heap.size, 0, none⟩) (by rw [HSZ.out]; exact Nat.lt_succ_self _)).trans HQ0.out) ((hb.cell (p := ⟨B, 0, none⟩) (by rw [HSZ.out]; exact Nat.lt_succ_of_lt hlt)).trans HC0.out) (by have := HSZ.out; omega) (by have := HSZ.out; omega)).mono ?_; rintro e w2 ⟨rfl, M, m, os, hM1, hM2, rfl⟩))
    go_ret
    have hml : M.length = L.length := hM1.length_eq
    refine ⟨_, M, rfl, hM1, hM2, ?_, ?_⟩
    · have ho := own_sorted (own_of_R HV.out) hml m os
      have hR := R_of_own (v := .slice (some ⟨g, 0, none⟩) L.length cap) (xs := M) (by rw [hml]; exact ho)
      exact Kd.R_lower hR (by rw [HSZ.out]; exact Nat.le_succ _)
    · exact below_step HB1.out (hb.trans (below_sorted hgb hgl m M os))
  · have hl0 : L = [] := List.eq_nil_of_length_eq_zero (by omega)
    subst hl0
    go_enter Try.func55, Try.ntmps55
    go_wp2_with (first
      | (go_at_call 66; refine (clone_walk A c [] _ HC.out (by omega)).mono ?_; rintro e w1 ⟨v, rfl, HV, hb⟩; obtain ⟨A2, cap, rfl⟩ := Kd.R_slice HV; have HV := Aside0.mk HV)
      | (go_at_call 67; refine (AnyF.slices_SortFunc_none Try.sortFunc A2 cap (.func (.func 68) #[] #[.pointer (some ⟨W.heap.size, 0, none⟩)]) w1).mono ?_; rintro e w2 ⟨rfl, rfl⟩))
    go_ret
    exact ⟨_, [], rfl, List.Perm.refl _, List.Pairwise.nil, Kd.R_lower HV.out (by rw [HSZ.out]; exact Nat.le_succ _), below_step HB1.out hb⟩
end Go.Proofs.Ytfkebbkfmchnaaa.Ln

namespace Go.Proofs.Ytfkebbkfmchnaaa.Ln
open Go.RowKit Go.Proofs.Ytfkebbkfmchnaaa.PBase Go.Proofs.Ytfkebbkfmchnaaa.Heap
/-- A row in a heap's order. -/
def HPL (ag : Int) (L : List S77) : Prop := HP z77 (lt ag) L L.length
theorem g_append {L K : List S77} {m : Nat} (h : m < L.length) : Heap.g z77 (L ++ K) m = Heap.g z77 L m := by
  rw [g_lt z77 h, g_lt z77 (by rw [List.length_append]; omega)]
  exact List.getElem_append_left h
theorem g_take {L : List S77} {n m : Nat} (h : m < n) (hn : n ≤ L.length) : Heap.g z77 (L.take n) m = Heap.g z77 L m := by
  rw [g_lt z77 (by rw [List.length_take]; omega), g_lt z77 (by omega)]
  simp
theorem push_spec (ag : Int) {L : List S77} (h : HPL ag L) (x : S77) : HPL ag (pushL ag L x) ∧ (pushL ag L x).Perm (L ++ [x]) := by
  have hlen : (L ++ [x]).length = L.length + 1 := by simp
  obtain ⟨h1, h2, _⟩ := up_spec z77 (lt ag) (lt_ord ag) (L.length + 1) L.length (L ++ [x]) L.length (Nat.le_refl _) (by omega) (by omega)
    (fun m m0 m1 hm => by rw [g_append (by omega), g_append (by omega)]; exact h m m0 (by omega)) (fun m m0 m1 hm j0 => by omega)
  refine ⟨?_, h2⟩
  have e : (pushL ag L x).length = L.length + 1 := by have := h2.length_eq; rw [hlen] at this; exact this
  unfold HPL
  rw [e]
  exact h1
theorem perm_take {l : List S77} {n : Nat} (hn : l.length = n + 1) : l.Perm (Heap.g z77 l n :: l.take n) := by
  have h1 : l = l.take n ++ [l[n]] := by
    have h3 : l.drop n = [l[n]] := by
      rw [List.drop_eq_getElem_cons (by omega), List.drop_eq_nil_of_le (by omega)]
    rw [← h3, List.take_append_drop]
  rw [g_lt z77 (by omega)]
  have h2 : (l.take n ++ [l[n]]).Perm (l[n] :: l.take n) := by
    have := List.perm_append_comm (l₁ := l.take n) (l₂ := [l[n]])
    simpa using this
  exact (List.Perm.of_eq h1).trans h2
theorem fix_spec (ag : Int) {L : List S77} (h : HPL ag L) {i n : Nat} (hn : L.length = n + 1) (hi : i < n) :
    (∀ m, 0 < m → m < n → nb (lt ag) (Heap.g z77 (fixL ag L i n) ((m - 1) / 2)) (Heap.g z77 (fixL ag L i n) m)) ∧ (fixL ag L i n).Perm L ∧ Heap.g z77 (fixL ag L i n) n = Heap.g z77 L i := by
  have O := lt_ord ag
  have hs := fun m => sw_get z77 (l := L) (i := i) (j := n) (by omega) (by omega) m
  have hsl := sw_len z77 L i n
  have hsp := sw_perm z77 (l := L) (i := i) (j := n) (by omega) (by omega)
  have hL : ∀ m, 0 < m → m < n → nb (lt ag) (Heap.g z77 L ((m - 1) / 2)) (Heap.g z77 L m) := fun m m0 m1 => h m m0 (by omega)
  have hch : ∀ m, 0 < m → m < n → (m - 1) / 2 = i → 0 < i → nb (lt ag) (Heap.g z77 (sw z77 L i n) ((i - 1) / 2)) (Heap.g z77 (sw z77 L i n) m) := by
    intro m m0 m1 hm i0
    rw [hs, hs, if_neg (by omega), if_neg (by omega), if_neg (by omega), if_neg (by omega)]
    have k1 := hL i i0 hi
    have k2 := hL m m0 m1
    rw [hm] at k2
    exact O.tr k1 k2
  obtain ⟨d1, d2, d3, d4, d5, d6⟩ := down_spec z77 (lt ag) O n n (sw z77 L i n) i (Nat.sub_le _ _) (by omega) hi (fun m m0 m1 hm hm2 => by
    rw [hs, hs, if_neg (by omega), if_neg hm2, if_neg (by omega), if_neg hm]
    exact hL m m0 m1) hch
  have hgn : Heap.g z77 (Heap.down z77 (lt ag) n (sw z77 L i n) i n).1 n = Heap.g z77 L i := by
    rw [d6 n (Nat.le_refl _), hs, if_pos rfl]
  unfold fixL
  by_cases hd : i < (Heap.down z77 (lt ag) n (sw z77 L i n) i n).2
  · rw [if_pos hd]
    refine ⟨fun m m0 m1 => ?_, d1.trans hsp, hgn⟩
    by_cases e : m = i
    · subst e
      exact d3 (.inl (by omega)) m0
    · exact d2 m m0 m1 e
  · rw [if_neg hd]
    have hlen := down_len ag n n (sw z77 L i n) i
    have e1 := d4 (by omega)
    obtain ⟨u1, u2, u3⟩ := up_spec z77 (lt ag) O n i (Heap.down z77 (lt ag) n (sw z77 L i n) i n).1 i (Nat.le_refl _) (by omega) hi d2 (by rw [e1]; exact hch)
    exact ⟨u1, u2.trans (d1.trans hsp), by rw [u3 n (Nat.le_refl _)]; exact hgn⟩
theorem remove_spec (ag : Int) {L : List S77} (h : HPL ag L) {i : Nat} (hi : i < L.length) : HPL ag (removeL ag L i) ∧ L.Perm (Heap.g z77 L i :: removeL ag L i) := by
  obtain ⟨n, hn⟩ : ∃ n, L.length = n + 1 := ⟨L.length - 1, by omega⟩
  unfold removeL
  rw [show L.length - 1 = n by omega]
  by_cases hni : n = i
  · subst hni
    rw [if_neg (by simp)]
    refine ⟨?_, perm_take hn⟩
    unfold HPL
    rw [List.length_take, Nat.min_eq_left (by omega)]
    intro m m0 m1
    rw [g_take (by omega) (by omega), g_take m1 (by omega)]
    exact h m m0 (by omega)
  · rw [if_pos hni]
    obtain ⟨h1, h2, h3⟩ := fix_spec ag h hn (i := i) (by omega)
    have hl := fixL_len ag L i n
    refine ⟨?_, ?_⟩
    · unfold HPL
      rw [List.length_take, Nat.min_eq_left (by omega)]
      intro m m0 m1
      rw [g_take (by omega) (by omega), g_take m1 (by omega)]
      exact h1 m m0 m1
    · rw [← h3]
      exact h2.symm.trans (perm_take (by omega))
theorem first_least (ag : Int) {L : List S77} (h : HPL ag L) : ∀ x ∈ L, lt ag x (Heap.g z77 L 0) = false := by
  intro x hx
  obtain ⟨m, hm, rfl⟩ := List.mem_iff_getElem.1 hx
  have h2 := root z77 (lt ag) (lt_ord ag) h (by unfold nb; rw [lt_false]; omega) m hm
  rw [g_lt z77 hm] at h2
  exact h2
end Go.Proofs.Ytfkebbkfmchnaaa.Ln

namespace Go.Proofs.Ytfkebbkfmchnaaa.Ln
open Go.RowKit Go.Proofs.Ytfkebbkfmchnaaa.PBase Go.Proofs.Ytfkebbkfmchnaaa.Cat Go.Proofs.Ytfkebbkfmchnaaa.Heap Go.Proofs.YtfkebbkfmchnaaaW.PrintWords Go.Proofs.YtfkebbkfmchnaaaW.PrintLast Go.Proofs.YtfkebbkfmchnaaaW.PrintMore
/-- A queue, whose blocks are none of X. -/
structure QI (N : Nat) (X : Nat → Prop) (W : World) (B : Nat) (ag rm ct : Int) (L : List S77) : Prop where
  ex : ∃ v, QS W N B ag v rm ct L ∧ ∀ k, X k → ¬ QF B v k
  xs : ∀ k, X k → k < W.heap.size
/-- What may change. -/
abbrev KX (N : Nat) (X : Nat → Prop) (k : Nat) : Prop := N ≤ k ∧ ¬ X k
theorem Fr.trans {F : Nat → Prop} {W W1 W2 : World} (h : Fr F W W1) (k : Fr F W1 W2) : Fr F W W2 := Fr.then_ h k (fun _ h => .inl h)
theorem Fr.weak {F F2 : Nat → Prop} {W W1 : World} (h : Fr F W W1) (hF : ∀ k, F k → F2 k) : Fr F2 W W1 := ⟨h.os, h.tape, h.out, h.size, fun k hk hn => h.blk k hk (fun e => hn (hF k e))⟩
theorem qf_base {W : World} {N B : Nat} {ag rm ct : Int} {v : Value} {L : List S77} (h : QS W N B ag v rm ct L) (k : Nat) (e : QF B v k) : N ≤ k := by
  rcases e with e | e
  · exact e ▸ h.lb
  · obtain ⟨_, h2⟩ := h.own
    rcases h2 with ⟨h2, _⟩ | ⟨g, cap, cells, h2, hgb, _⟩
    · rw [h2] at e; cases e
    · rw [h2] at e
      have : g = k := by simpa [Value.ownBlock] using e
      exact this ▸ hgb
theorem qf_lt {W : World} {N B : Nat} {ag rm ct : Int} {v : Value} {L : List S77} (h : QS W N B ag v rm ct L) (k : Nat) (e : QF B v k) : k < W.heap.size := by
  rcases e with e | e
  · exact e ▸ h.lt
  · exact own_lt h.own _ e
theorem go_I {N : Nat} {X : Nat → Prop} {W w' : World} {B : Nat} {ag rm ct ag2 rm2 ct2 : Int} {L L2 : List S77} {v : Value} (h : QS W N B ag v rm ct L) (hX : ∀ k, X k → ¬ QF B v k) (xs : ∀ k, X k → k < W.heap.size) (hg : QGo W N B v w' ag2 rm2 ct2 L2) : QI N X w' B ag2 rm2 ct2 L2 ∧ Fr (KX N X) W w' := by
  obtain ⟨v', h1, h2, h3⟩ := hg
  refine ⟨⟨⟨v', h1, fun k hk e => ?_⟩, fun k hk => Nat.lt_of_lt_of_le (xs k hk) h2.size⟩, h2.weak (fun k e => ⟨qf_base h k e, fun hx => hX k hx e⟩)⟩
  rcases qf_at h3 k e with e | e
  · exact hX k hk e
  · have := xs k hk; omega
theorem QI.more {N : Nat} {X Y : Nat → Prop} {W w' : World} {B : Nat} {ag rm ct : Int} {L : List S77} (h : QI N X W B ag rm ct L) (hb : Below W.heap.size W w') (hY : ∀ k, Y k → W.heap.size ≤ k ∧ k < w'.heap.size) : QI N (fun k => X k ∨ Y k) w' B ag rm ct L := by
  obtain ⟨⟨v, h1, h2⟩, h3⟩ := h
  refine ⟨⟨v, h1.step hb, fun k hk e => ?_⟩, fun k hk => ?_⟩
  · rcases hk with hk | hk
    · exact h2 k hk e
    · have := qf_lt h1 k e
      have := (hY k hk).1
      omega
  · rcases hk with hk | hk
    · exact Nat.lt_of_lt_of_le (h3 k hk) hb.size
    · exact (hY k hk).2
theorem QI.step {N : Nat} {X : Nat → Prop} {W w' : World} {B : Nat} {ag rm ct : Int} {L : List S77} (h : QI N X W B ag rm ct L) (hb : Below W.heap.size W w') : QI N X w' B ag rm ct L := by
  obtain ⟨⟨v, h1, h2⟩, h3⟩ := h
  exact ⟨⟨v, h1.step hb, h2⟩, fun k hk => Nat.lt_of_lt_of_le (h3 k hk) hb.size⟩
theorem QI.keep {N : Nat} {X : Nat → Prop} {W w' : World} {B : Nat} {ag rm ct : Int} {L : List S77} (h : QI N X W B ag rm ct L) (hb : Fr X W w') : QI N X w' B ag rm ct L := by
  obtain ⟨⟨v, h1, h2⟩, h3⟩ := h
  exact ⟨⟨v, h1.keep hb h2, h2⟩, fun k hk => Nat.lt_of_lt_of_le (h3 k hk) hb.size⟩
theorem QI.base_le {N : Nat} {X : Nat → Prop} {W : World} {B : Nat} {ag rm ct : Int} {L : List S77} (h : QI N X W B ag rm ct L) : N ≤ W.heap.size := by
  obtain ⟨⟨v, h1, h2⟩, h3⟩ := h
  exact h1.base_le
theorem Fr.of_b {N : Nat} {X : Nat → Prop} {W w' : World} (hb : Below W.heap.size W w') : Fr (KX N X) W w' := Fr.of_below hb
theorem new_I (a r : Int) (N : Nat) (W : World) (hN : N ≤ W.heap.size) (h : (1 ≤ a ∧ a ≤ 1000) ∧ 0 ≤ r ∧ r ≤ 1000) : Calls Try.prog 33 #[.int .i64 a, .int .i64 r] W fun e w' => ∃ B, e = .returned (.pointer (some ⟨B, 0, none⟩)) ∧ Below W.heap.size W w' ∧ QI N (fun _ => False) w' B a r 0 [] := by
  refine (new_good a r W h).mono ?_
  rintro e w' ⟨rfl, hb, v, h1, h2, h3⟩
  refine ⟨_, rfl, hb, ⟨v, ⟨h1, hN, ?_⟩, fun _ h => h.elim⟩, fun _ h => h.elim⟩
  obtain ⟨k1, k2⟩ := h3
  refine ⟨k1, ?_⟩
  rcases k2 with k2 | ⟨g, cap, cells, rfl, hgb, hr⟩
  · exact .inl k2
  · exact .inr ⟨g, cap, cells, rfl, Nat.le_trans hN hgb, hr⟩
section
variable {N : Nat} {X : Nat → Prop} {W : World} {B : Nat} {ag rm ct : Int} {L : List S77}
theorem count_I (h : QI N X W B ag rm ct L) : Calls Try.prog 56 #[.pointer (some ⟨B, 0, none⟩)] W fun e w' => e = .returned (.int .i64 ct) ∧ QI N X w' B ag rm ct L ∧ Fr (KX N X) W w' := by
  obtain ⟨⟨v, h1, h2⟩, h3⟩ := h
  refine (count_calls h1).mono ?_
  rintro e w' ⟨rfl, hb⟩
  exact ⟨rfl, go_I h1 h2 h3 (h1.go hb)⟩
theorem put_I (h : QI N X W B ag rm ct L) (id cl : Int) (hl : L.length ≤ 90000) (n : Int) (M : List S77) (hn : putE L rm id cl = n) (hM : putL ag rm ct L id cl = M) : Calls Try.prog 35 #[.pointer (some ⟨B, 0, none⟩), .int .i64 id, .int .i64 cl] W fun e w' => e = .returned (.int .i64 n) ∧ QI N X w' B ag rm ct M ∧ Fr (KX N X) W w' := by
  obtain ⟨⟨v, h1, h2⟩, h3⟩ := h
  subst hn hM
  refine (put_calls h1 id cl hl).mono ?_
  rintro e w' ⟨rfl, hb⟩
  exact ⟨rfl, go_I h1 h2 h3 hb⟩
theorem drop_I (h : QI N X W B ag rm ct L) (id : Int) (hl : L.length ≤ 90000) (n : Bool) (M : List S77) (hn : decide (0 ≤ place L id) = n) (hM : dropL ag L id = M) : Calls Try.prog 41 #[.pointer (some ⟨B, 0, none⟩), .int .i64 id] W fun e w' => e = .returned (.bool n) ∧ QI N X w' B ag rm ct M ∧ Fr (KX N X) W w' := by
  obtain ⟨⟨v, h1, h2⟩, h3⟩ := h
  subst hn hM
  refine (drop_calls h1 id (by omega)).mono ?_
  rintro e w' ⟨rfl, hb⟩
  exact ⟨rfl, go_I h1 h2 h3 hb⟩
theorem empty_I (h : QI N X W B ag rm ct []) : Calls Try.prog 36 #[.pointer (some ⟨B, 0, none⟩)] W fun e w' => e = .returned (.tuple #[.agg #[.int .i64 0, .int .i64 0, .int .i64 0], .int .i64 12]) ∧ QI N X w' B ag rm ct [] ∧ Fr (KX N X) W w' := by
  obtain ⟨⟨v, h1, h2⟩, h3⟩ := h
  refine (take_empty h1).mono ?_
  rintro e w' ⟨rfl, hb⟩
  exact ⟨rfl, go_I h1 h2 h3 hb⟩
theorem take_I (h : QI N X W B ag rm ct L) (h0 : 0 < L.length) (hl : L.length ≤ 90000) (ct1 : Int) (hct : IntKind.i64.wrap (ct + 1) = ct1) (x : S77) (hx : Heap.g z77 L 0 = x) (M : List S77) (hM : removeL ag L 0 = M) :
    Calls Try.prog 36 #[.pointer (some ⟨B, 0, none⟩)] W fun e w' => e = .returned (.tuple #[.agg #[.int .i64 x.f0, .int .i64 x.f1, .int .i64 x.f2], .int .i64 0]) ∧ QI N X w' B ag rm ct1 M ∧ Fr (KX N X) W w' := by
  obtain ⟨⟨v, h1, h2⟩, h3⟩ := h
  subst hx hM
  refine (take_calls h1 h0 hl ct1 hct).mono ?_
  rintro e w' ⟨rfl, hb⟩
  exact ⟨rfl, go_I h1 h2 h3 hb⟩
/-- List lays its row in blocks of its own. -/
theorem list_I (h : QI N X W B ag rm ct L) (hl : L.length ≤ 90000) : Calls Try.prog 55 #[.pointer (some ⟨B, 0, none⟩)] W fun e w' => ∃ v0_ M, e = .returned v0_ ∧ M.Perm L ∧ Sorted ag M ∧ Kd.R k77 77 w' W.heap.size (fun _ => True) v0_ M ∧ Below W.heap.size W w' := by
  obtain ⟨⟨v, h1, h2⟩, h3⟩ := h
  exact list_calls h1 (by omega)
end
end Go.Proofs.Ytfkebbkfmchnaaa.Ln

namespace Go.Proofs.Ytfkebbkfmchnaaa.Ln
open Go.RowKit Go.Proofs.Ytfkebbkfmchnaaa.PBase Go.Proofs.Ytfkebbkfmchnaaa.Heap
/-- The jobs' numbers. -/
def ids (L : List S77) : List Int := L.map (fun x => x.f0)
theorem ids_perm {L M : List S77} (h : L.Perm M) : (ids L).Perm (ids M) := h.map _
theorem mem_ids {L : List S77} {x : S77} (h : x ∈ L) : x.f0 ∈ ids L := List.mem_map.2 ⟨x, h, rfl⟩
theorem ids_len (L : List S77) : (ids L).length = L.length := by simp [ids]
theorem place_in (L : List S77) (id : Int) : 0 ≤ place L id ↔ id ∈ ids L := by
  rcases place_cases L id with ⟨h1, h2⟩ | ⟨k, h1, h2, h3⟩
  · rw [h1]
    constructor
    · intro h; omega
    · intro h
      obtain ⟨x, hx, rfl⟩ := List.mem_map.1 h
      exact absurd rfl (h2 x hx)
  · rw [h2]
    constructor
    · intro _
      rw [g_lt z77 h1] at h3
      rw [← h3]
      exact mem_ids (List.getElem_mem h1)
    · intro _; omega
/-- A queue's row: a heap whose numbers are distinct. -/
structure St (ag : Int) (L : List S77) : Prop where
  hp : HPL ag L
  nd : (ids L).Nodup
theorem St.nil (ag : Int) : St ag [] := ⟨fun m m0 m1 => absurd m1 (by simp), List.nodup_nil⟩
theorem St.push {ag : Int} {L : List S77} (h : St ag L) {x : S77} (hx : x.f0 ∉ ids L) : St ag (pushL ag L x) ∧ (pushL ag L x).Perm (x :: L) := by
  obtain ⟨h1, h2⟩ := push_spec ag h.hp x
  have h3 : (pushL ag L x).Perm (x :: L) := h2.trans (List.perm_append_comm (l₁ := L) (l₂ := [x]))
  exact ⟨⟨h1, (ids_perm h3).nodup_iff.2 (List.nodup_cons.2 ⟨hx, h.nd⟩)⟩, h3⟩
theorem put_ok {L : List S77} {rm id cl : Int} (h1 : 0 ≤ cl ∧ cl < 8) (h2 : id ∉ ids L) (h3 : (L.length : Int) < rm) : putE L rm id cl = 0 := by
  have := place_in L id
  unfold putE
  rw [if_neg (by omega), if_neg (by rw [this]; exact h2), if_neg (by omega)]
theorem putL_ok {ag rm ct : Int} {L : List S77} {id cl : Int} (h : putE L rm id cl = 0) : putL ag rm ct L id cl = pushL ag L ⟨id, cl, ct⟩ := by
  unfold putL; rw [if_pos h]
theorem St.drop {ag : Int} {L : List S77} (h : St ag L) {id : Int} (hin : id ∈ ids L) : ∃ x, x ∈ L ∧ x.f0 = id ∧ St ag (dropL ag L id) ∧ L.Perm (x :: dropL ag L id) := by
  rcases place_cases L id with ⟨h1, h2⟩ | ⟨k, h1, h2, h3⟩
  · have := (place_in L id).2 hin
    omega
  · have e : dropL ag L id = removeL ag L k := by unfold dropL; rw [h2, if_pos (by omega), Int.toNat_natCast]
    obtain ⟨k1, k2⟩ := remove_spec ag h.hp h1
    rw [e]
    refine ⟨_, ?_, h3, ⟨k1, ?_⟩, k2⟩
    · rw [g_lt z77 h1]; exact List.getElem_mem h1
    · have := (ids_perm k2).nodup_iff.1 h.nd
      exact (List.nodup_cons.1 this).2
theorem drop_no {ag : Int} {L : List S77} {id : Int} (hin : id ∉ ids L) : dropL ag L id = L := by
  have := place_in L id
  unfold dropL
  rw [if_neg (by rw [this]; exact hin)]
theorem St.take {ag : Int} {L : List S77} (h : St ag L) (h0 : 0 < L.length) : St ag (removeL ag L 0) ∧ L.Perm (Heap.g z77 L 0 :: removeL ag L 0) ∧ ∀ x ∈ L, lt ag x (Heap.g z77 L 0) = false := by
  obtain ⟨k1, k2⟩ := remove_spec ag h.hp h0
  refine ⟨⟨k1, ?_⟩, k2, first_least ag h.hp⟩
  have := (ids_perm k2).nodup_iff.1 h.nd
  exact (List.nodup_cons.1 this).2
theorem same_id {L : List S77} (h : (ids L).Nodup) {a b : S77} (ha : a ∈ L) (hb : b ∈ L) (e : a.f0 = b.f0) : a = b := by
  induction L with
  | nil => cases ha
  | cons x L ih =>
    have h2 : x.f0 ∉ ids L ∧ (ids L).Nodup := List.nodup_cons.1 h
    rcases List.mem_cons.1 ha with ha1 | ha1
    · rcases List.mem_cons.1 hb with hb1 | hb1
      · rw [ha1, hb1]
      · have := mem_ids hb1
        rw [← e, ha1] at this
        exact absurd this h2.1
    · rcases List.mem_cons.1 hb with hb1 | hb1
      · have := mem_ids ha1
        rw [e, hb1] at this
        exact absurd this h2.1
      · exact ih h2.2 ha1 hb1
theorem sorted_eq {ag : Int} {M1 M2 : List S77} (h : M1.Perm M2) (nd : (ids M1).Nodup) (s1 : Sorted ag M1) (s2 : Sorted ag M2) : M1 = M2 := by
  refine List.Perm.eq_of_pairwise (le := fun a b => lt ag b a = false) (fun a b ha hb h1 h2 => ?_) s1 s2 h
  rw [lt_false] at h1 h2
  exact same_id nd ha (h.mem_iff.2 hb) (by omega)
theorem eq_waits : ∀ (k : Nat) (M : List S77) (i : Nat), M.length ≤ i + k → i ≤ M.length → M.length ≤ 1000000 → remontoirkeep_Waits.l0 (k + 1) M M (i : Int) = some true := by
  intro k
  induction k with
  | zero =>
    intro M i h1 h2 h3
    rw [remontoirkeep_Waits.l0, if_neg (by omega)]
  | succ k ih =>
    intro M i h1 h2 h3
    rw [remontoirkeep_Waits.l0]
    by_cases c : (i : Int) < (M.length : Int)
    · rw [if_pos c, if_pos (by omega), if_pos c, if_neg (by simp)]
      have e : wrap64 ((i : Int) + 1) = ((i + 1 : Nat) : Int) := by
        unfold wrap64; omega
      rw [e]
      exact ih M (i + 1) (by omega) (by omega) h3
    · rw [if_neg c]
theorem waits_same (M : List S77) (h : M.length ≤ 1000000) : remontoirkeep_Waits.f (M.length + 1) M M = some true := by
  unfold remontoirkeep_Waits.f
  rw [if_pos rfl]
  exact eq_waits M.length M 0 (by omega) (by omega) h
end Go.Proofs.Ytfkebbkfmchnaaa.Ln
