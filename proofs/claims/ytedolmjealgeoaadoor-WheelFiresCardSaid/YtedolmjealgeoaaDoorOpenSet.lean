/- A struct of one slice of whole numbers laid open. Conditions: those in the statement. -/
import Derived.Test.YtedolmjealgeoaaDoorOpen
import Derived.ChangeSame
namespace Go.Proofs.YtedolmjealgeoaaDoor.Open
open Go.ChangeShapes Go.WideShapes Go.Deep
section
variable {P : Program} {t : TypeId}
theorem open_setrows {H : Type} {enc : TypeId × Value → H} {w : World} {base : Nat} {spare : Nat → Bool} {held : Bool} {e t1 : TypeId} {f0 : Field} {v : Value} {d : DataW H} {p : List MemPlace} {ks : List IntKind}
    (ht : P.underlying t = some (.struct #[f0])) (h1 : f0.type = t1) (ho : f0.offset = 0) (hc : P.cellsOf t = 1) (hc1 : P.cellsOf t1 = 1) (hs : P.underlying t1 = some (.slice e)) (fl : Flat P e ks) (hv : ∃ cs, v = .agg cs) (h : DataW.Trod enc P w base spare held t v d p) :
    ∃ a cap xs, v = .agg #[.slice a (List.length xs) cap] ∧ xs.length ≤ cap ∧ cap ≤ maxLen ∧ RowsOf w ks a xs := by
  obtain ⟨cs, rfl⟩ := hv
  obtain ⟨fuel, hf⟩ := h
  obtain ⟨y0, n, _, hl, h0⟩ := trod_struct1 ht hf
  subst h1
  simp only [Value.cells] at h0 hl
  rw [ho, hc1, List.drop_zero] at h0
  rw [hc] at hl
  obtain ⟨x, hx⟩ : ∃ x, cs.toList = [x] := List.length_eq_one_iff.1 hl
  rw [hx] at h0
  obtain rfl : cs = #[x] := by
    cases cs
    simp at hx
    rw [hx]
  have h3 : DataW.trod enc P w base spare held n f0.type [x] = some y0 := h0
  have hxs : ∃ a len cap, x = .slice a len cap := by
    rcases open_slice hs h3 with ⟨e1, _⟩ | ⟨a, len, cap, _, _, _, _, e1, _⟩
    · exact ⟨none, 0, 0, by injection e1⟩
    · exact ⟨some a, len, cap, by injection e1⟩
  obtain ⟨a, len, cap, rfl⟩ := hxs
  obtain ⟨xs, h4, h5, h6, h7⟩ := open_rows (t := f0.type) (d := y0.1) (p := y0.2) hs fl ⟨n, h3⟩
  subst h4
  exact ⟨a, cap, xs, rfl, h5, h6, h7⟩
end
end Go.Proofs.YtedolmjealgeoaaDoor.Open
