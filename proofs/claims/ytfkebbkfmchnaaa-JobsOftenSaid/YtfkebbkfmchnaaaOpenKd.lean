/- Rows of whole numbers as the printed words read them. Conditions: those in each statement. -/
import Derived.Test.YtfkebbkfmchnaaaOpen
import Derived.Test.YtfkebbkfmchnaaaWWords
namespace Go.Proofs.Ytfkebbkfmchnaaa.Open
open Go.Proofs.YtfkebbkfmchnaaaW.PrintWords
/-- Rows of numbers, read as elements of a kind. -/
theorem kd_rows {α : Type} {d : Kd α} {W : World} {ks : List IntKind} {A : Option Addr} {l : List (List Int)} (f : List Int → α) (hs : d.sz = ks.length) (hK : ∀ ns, Fits ks ns → d.K W (f ns) (ints ks ns))
    (h : RowsOf W ks A l) (hm : l.length ≤ 9223372036854775807) : d.C W A (l.map f).length (l.map f) := by
  refine ⟨rfl, by simpa using hm, fun h0 => ?_⟩
  obtain ⟨ad, e, hc⟩ := h.1 (by simpa using h0)
  refine ⟨ad, e, fun j p hp => ?_⟩
  rw [List.getElem?_map] at hp
  obtain ⟨ns, hns, rfl⟩ := Option.map_eq_some_iff.1 hp
  have hf := h.2 ns (List.mem_of_getElem? hns)
  exact ⟨ints ks ns, (ints_length hf).trans hs.symm, hK ns hf, fun i u hu => by rw [hs]; exact hc j ns hns i u hu⟩
def first (ns : List Int) : Int := ns.headD 0
def firsts (l : List (List Int)) : List Int := l.map first
theorem firsts_length (l : List (List Int)) : (firsts l).length = l.length := by simp [firsts]
theorem fits_one {k : IntKind} {ns : List Int} (h : Fits [k] ns) : ns = [first ns] ∧ (Lit.int k (first ns)).wf = true := by
  obtain ⟨n, r, rfl, hw, hr⟩ := fits_cons h
  obtain rfl := fits_nil hr
  exact ⟨rfl, hw⟩
theorem kd_ints {W : World} {k : IntKind} {A : Option Addr} {l : List (List Int)} (h : RowsOf W [k] A l) (hm : l.length ≤ 9223372036854775807) : Kd.C (Kd.int k) W A (firsts l).length (firsts l) :=
  kd_rows (d := Kd.int k) first rfl (fun ns hf => by
    obtain ⟨e, _⟩ := fits_one hf
    show ints [k] ns = [Value.int k (first ns)]
    rw [e]; rfl) h hm
theorem firsts_wf {W : World} {k : IntKind} {A : Option Addr} {l : List (List Int)} (h : RowsOf W [k] A l) : ∀ x ∈ firsts l, (Lit.int k x).wf = true := by
  intro x hx
  obtain ⟨ns, hns, rfl⟩ := List.mem_map.1 hx
  exact (fits_one (h.2 ns hns)).2
end Go.Proofs.Ytfkebbkfmchnaaa.Open
