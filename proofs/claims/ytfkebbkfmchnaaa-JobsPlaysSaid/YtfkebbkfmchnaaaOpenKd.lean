/- Rows of whole numbers as the printed words read them. Conditions: those in each statement. -/
import Derived.Test.YtfkebbkfmchnaaaOpen
import Derived.Test.YtfkebbkfmchnaaaWWords
namespace Go.Proofs.Ytfkebbkfmchnaaa.Open
open Go.Proofs.YtfkebbkfmchnaaaW.PrintWords
/-- Rows of numbers, read as elements of a kind. -/
theorem kd_rows {α : Type} {d : Kd α} {W : World} {ks : List IntKind} {A : Option Addr} {l : List (List Int)} (f : List Int → α) (hs : d.sz = ks.length) (hK : ∀ ns, Fits ks ns → d.K W (f ns) (ints ks ns))
    (h : RowsOf W ks A l) (hm : l.length ≤ 9223372036854775807) : d.C W A (l.map f).length (l.map f) := by
  refine ⟨rfl, by simpa using hm, fun h0 => ?_⟩
  obtain ⟨ad, e, hc⟩ := h.1 (by simpa using h0)
  refine ⟨ad, e, fun j p hp => ?_⟩
  rw [List.getElem?_map] at hp
  obtain ⟨ns, hns, rfl⟩ := Option.map_eq_some_iff.1 hp
  have hf := h.2 ns (List.mem_of_getElem? hns)
  exact ⟨ints ks ns, (ints_length hf).trans hs.symm, hK ns hf, fun i u hu => by rw [hs]; exact hc j ns hns i u hu⟩
def first (ns : List Int) : Int := ns.headD 0
end Go.Proofs.Ytfkebbkfmchnaaa.Open
