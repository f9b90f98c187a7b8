/- Arguments laid open: a value whose cells are whole numbers alone (structs, arrays, of whatever depth), a slice of such values. Conditions: those in each statement. -/
import Derived.Test.YtfkebbkfmchnaaaProg
import Derived.Deep.Slices
import Derived.OpenShut
import Derived.SizedLaws
import Derived.WideShapes
import Derived.Laws.IdiomArrays
namespace Go.Proofs.Ytfkebbkfmchnaaa.Open
open Go.ChangeShapes Go.WideShapes Go.Deep

/-- The whole numbers of a value, each in its kind. -/
def ints (ks : List IntKind) (ns : List Int) : List Value := List.zipWith Value.int ks ns
/-- Each number fits its kind. -/
def Fits (ks : List IntKind) (ns : List Int) : Prop := ns.length = ks.length ∧ ∀ (i : Nat) (k : IntKind) (n : Int), ks[i]? = some k → ns[i]? = some n → (Lit.int k n).wf = true
theorem ints_length {ks : List IntKind} {ns : List Int} (h : Fits ks ns) : (ints ks ns).length = ks.length := by simp [ints, h.1]
theorem ints_append {k1 k2 : List IntKind} {n1 n2 : List Int} (h : n1.length = k1.length) : ints (k1 ++ k2) (n1 ++ n2) = ints k1 n1 ++ ints k2 n2 := by
  unfold ints
  exact List.zipWith_append (by omega)
theorem Fits.append {k1 k2 : List IntKind} {n1 n2 : List Int} (h1 : Fits k1 n1) (h2 : Fits k2 n2) : Fits (k1 ++ k2) (n1 ++ n2) := by
  refine ⟨by simp [h1.1, h2.1], fun i k n hk hn => ?_⟩
  rcases Nat.lt_or_ge i k1.length with hlt | hge
  · rw [List.getElem?_append_left hlt] at hk
    rw [List.getElem?_append_left (by rw [h1.1]; exact hlt)] at hn
    exact h1.2 i k n hk hn
  · rw [List.getElem?_append_right hge] at hk
    rw [List.getElem?_append_right (by rw [h1.1]; exact hge), h1.1] at hn
    exact h2.2 _ k n hk hn

theorem fits_cons {k : IntKind} {ks : List IntKind} {ns : List Int} (h : Fits (k :: ks) ns) : ∃ n r, ns = n :: r ∧ (Lit.int k n).wf = true ∧ Fits ks r := by
  obtain ⟨hl, hw⟩ := h
  cases ns with
  | nil => simp at hl
  | cons n r => exact ⟨n, r, rfl, hw 0 k n rfl rfl, by simpa using hl, fun i k' n' h1 h2 => hw (i + 1) k' n' (by simpa using h1) (by simpa using h2)⟩
theorem fits_nil {ns : List Int} (h : Fits [] ns) : ns = [] := List.eq_nil_of_length_eq_zero h.1
/-- A type whose cells are whole numbers alone, of these kinds. -/
structure Flat (P : Program) (t : TypeId) (ks : List IntKind) : Prop where
  cells : P.cellsOf t = ks.length
  trod : ∀ {H : Type} {enc : TypeId × Value → H} {w : World} {base : Nat} {spare : Nat → Bool} {held : Bool} {fuel : Nat} {cs : List Value} {x : DataW H × List MemPlace},
    DataW.trod enc P w base spare held fuel t cs = some x → ∃ ns, Fits ks ns ∧ cs = ints ks ns

section
variable {P : Program} {t : TypeId}
theorem flat_int {k : IntKind} (ht : P.underlying t = some (.int k)) (hc : P.cellsOf t = 1) : Flat P t [k] :=
  ⟨hc, fun h => by
    obtain ⟨n, rfl, _, hw⟩ := DataW.trod_int ht h
    refine ⟨[n], ⟨rfl, fun i k' n' hk hn => ?_⟩, rfl⟩
    cases i with
    | zero =>
      simp only [List.getElem?_cons_zero, Option.some.injEq] at hk hn
      subst hk; subst hn
      exact hw
    | succ i => simp at hk⟩

/-- Cells one behind the other, piece by piece. -/
theorem pieces (cs : List Value) : ∀ (kss : List (List IntKind)) (off : Nat), cs.length = off + kss.flatten.length →
    (∀ (i : Nat) (ks : List IntKind), kss[i]? = some ks → ∃ ns, Fits ks ns ∧ (cs.drop (off + (kss.take i).flatten.length)).take ks.length = ints ks ns) →
    ∃ ns, Fits kss.flatten ns ∧ cs.drop off = ints kss.flatten ns
  | [], off, hl, _ => by
    refine ⟨[], ⟨rfl, fun i k n hk => by simp at hk⟩, ?_⟩
    simp only [List.flatten_nil, List.length_nil, Nat.add_zero] at hl
    rw [List.drop_of_length_le (by omega)]
    rfl
  | ks :: kss, off, hl, h => by
    simp only [List.flatten_cons, List.length_append] at hl
    obtain ⟨n1, f1, e1⟩ := h 0 ks rfl
    obtain ⟨n2, f2, e2⟩ := pieces cs kss (off + ks.length) (by omega) (fun i k hk => by
      obtain ⟨ns, f, e⟩ := h (i + 1) k (by simpa using hk)
      refine ⟨ns, f, ?_⟩
      rw [← e]
      simp only [List.take_succ_cons, List.flatten_cons, List.length_append, Nat.add_assoc])
    refine ⟨n1 ++ n2, f1.append f2, ?_⟩
    simp only [List.flatten_cons]
    rw [ints_append f1.1, ← e1, ← e2]
    simp only [List.take_zero, List.flatten_nil, List.length_nil, Nat.add_zero]
    rw [← List.drop_drop, List.take_append_drop]

theorem flat_struct {fs : Array Field} (kss : List (List IntKind)) (ht : P.underlying t = some (.struct fs)) (hc : P.cellsOf t = kss.flatten.length) (hn : kss.length = fs.size)
    (hf : ∀ (i : Nat) (f : Field) (ks : List IntKind), fs[i]? = some f → kss[i]? = some ks → Flat P f.type ks ∧ f.offset = (kss.take i).flatten.length) : Flat P t kss.flatten :=
  ⟨hc, fun h => by
    obtain ⟨xs, n, _, _, hl, hlen, hx⟩ := DataW.trod_struct ht h
    have := pieces _ kss 0 (by rw [hl, hc]; omega) (fun i ks hk => by
      have hi : i < fs.size := by rw [← hn]; exact (List.getElem?_eq_some_iff.1 hk).1
      have hfi : fs[i]? = some fs[i] := Array.getElem?_eq_getElem hi
      obtain ⟨fl, ho⟩ := hf i _ ks hfi hk
      have hxi := hx i _ hfi
      rw [List.getElem?_eq_getElem (show i < xs.length by omega)] at hxi
      obtain ⟨ns, fi, e⟩ := fl.trod hxi
      refine ⟨ns, fi, ?_⟩
      rw [Nat.zero_add, ← ho, ← fl.cells]
      exact e)
    simpa using this⟩

/-- A parameter of such a type, a struct or an array: its value. -/
theorem open_flat {H : Type} {enc : TypeId × Value → H} {w : World} {base : Nat} {spare : Nat → Bool} {held : Bool} {v : Value} {d : DataW H} {p : List MemPlace} {ks : List IntKind}
    (fl : Flat P t ks) (hs : ∃ cs, v = .agg cs) (h : DataW.Trod enc P w base spare held t v d p) : ∃ ns, Fits ks ns ∧ v = .agg (ints ks ns).toArray := by
  obtain ⟨cs, rfl⟩ := hs
  obtain ⟨fuel, hf⟩ := h
  obtain ⟨ns, f, e⟩ := fl.trod hf
  refine ⟨ns, f, ?_⟩
  simp only [Value.cells] at e
  rw [← e]

/-- A slice whose elements' cells are whole numbers alone: the numbers, row by row. -/
def RowsOf (w : World) (ks : List IntKind) (a : Option Addr) (xs : List (List Int)) : Prop :=
  (0 < xs.length → ∃ x, a = some x ∧ ∀ i ns, xs[i]? = some ns → ∀ j u, (ints ks ns)[j]? = some u → w.cell? (x.add (i * ks.length + j)) = some u) ∧ ∀ ns ∈ xs, Fits ks ns

theorem open_rows {H : Type} {enc : TypeId × Value → H} {w : World} {base : Nat} {spare : Nat → Bool} {held : Bool} {e : TypeId} {a : Option Addr} {len cap : Nat} {d : DataW H} {p : List MemPlace} {ks : List IntKind}
    (ht : P.underlying t = some (.slice e)) (fl : Flat P e ks) (h : DataW.Trod enc P w base spare held t (.slice a len cap) d p) :
    ∃ xs, xs.length = len ∧ len ≤ cap ∧ cap ≤ maxLen ∧ RowsOf w ks a xs := by
  obtain ⟨fuel, hf⟩ := h
  rcases open_slice ht hf with ⟨hcs, _⟩ | ⟨x, l, c, m, n, D, Pl, hcs, _, hl, hm, hmm, _, hi⟩
  · simp [Value.cells] at hcs
    obtain ⟨rfl, rfl, rfl⟩ := hcs
    exact ⟨[], rfl, by omega, by simp [maxLen], fun h => by simp at h, fun ns hn => by simp at hn⟩
  · simp [Value.cells] at hcs
    obtain ⟨rfl, rfl, rfl⟩ := hcs
    have hlm : len ≤ m := by rw [hmm]; split <;> omega
    have row : ∀ i, i < len → ∃ ns, Fits ks ns ∧ ∀ j u, (ints ks ns)[j]? = some u → w.cell? (x.add (i * ks.length + j)) = some u := fun i hil => by
      obtain ⟨cs', hc, hd⟩ := hi i (by omega)
      obtain ⟨ns, f, e'⟩ := fl.trod hd
      refine ⟨ns, f, fun j u hu => ?_⟩
      obtain ⟨_, hcl, hat⟩ := World.cells?_some hc
      rw [fl.cells] at hat hcl
      have hj : j < ks.length := by
        have := (List.getElem?_eq_some_iff.1 hu).1
        rw [ints_length f] at this
        exact this
      have := hat j hj
      rw [Go.Deep.add_add] at this
      rw [this, e', hu]
    refine ⟨(List.range len).map fun i => if h : i < len then (row i h).choose else [], by simp, hl, hm, fun _ => ⟨x, rfl, fun i ns hns j u hu => ?_⟩, fun ns hn => ?_⟩
    · rw [List.getElem?_map] at hns
      rcases Nat.lt_or_ge i len with hil | hil
      · rw [List.getElem?_range hil] at hns
        simp only [Option.map_some, Option.some.injEq, dif_pos hil] at hns
        subst hns
        exact (row i hil).choose_spec.2 j u hu
      · rw [List.getElem?_eq_none (by simp; omega)] at hns
        cases hns
    · obtain ⟨i, hil, rfl⟩ := List.mem_map.1 hn
      have hil' : i < len := by simpa using hil
      rw [dif_pos hil']
      exact (row i hil').choose_spec.1
/-- How long it can be. -/
theorem sized_rows {H : Type} {enc : TypeId × Value → H} {W : World} {base : Nat} {spare : Nat → Bool} {held : Bool} {e : TypeId} {a : Option Addr} {len cap : Nat} {d : DataW H} {ps : List MemPlace} {ts : List TypeId} {ds : List (DataW H)} {j : Nat}
    (hsz : (DataW.weightsEach P ts ds).all (· ≤ reachBytes) = true) (ht : ts[j]? = some t) (hd : ds[j]? = some d) (hu : P.underlying t = some (.slice e)) {B : Nat} (hB : P.bytesOf e = B)
    (h : DataW.Trod enc P W base spare held t (.slice a len cap) d ps) : len * B ≤ 140737488351232 := by
  obtain ⟨fuel, hf⟩ := h
  rcases open_slice hu hf with ⟨hcs, _⟩ | ⟨x, l, c, m, n, D, Pl, hcs, _, hl, _, hmm, hx, _⟩
  · simp [Value.cells] at hcs
    obtain ⟨rfl, rfl, rfl⟩ := hcs
    simp
  · simp [Value.cells] at hcs
    obtain ⟨rfl, rfl, rfl⟩ := hcs
    obtain ⟨hx, _⟩ := Prod.mk.inj hx
    subst hx
    have z := sized_slice hsz ht hd hu
    rw [hB] at z
    simp only [List.length_map, List.length_range] at z
    exact Nat.le_trans (Nat.mul_le_mul_right _ (by omega)) z
end
end Go.Proofs.Ytfkebbkfmchnaaa.Open
