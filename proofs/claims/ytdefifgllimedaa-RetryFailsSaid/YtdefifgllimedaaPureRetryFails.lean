/- RetryFails as numbers: for each of the 256 arguments the printed law answers true; each is reckoned by the kernel. Conditions: none. -/
import Derived.Test.YtdefifgllimedaaPRetryFailsx3
import Derived.OpenShut
namespace Go.Proofs.Ytdefifgllimedaa.Pure
open Go.RowKit Go.Proofs.Ytdefifgllimedaa.PRetryFails Go.Proofs.YtdefifgllimedaaW.PrintWords Go.Proofs.YtdefifgllimedaaW.PrintLast

theorem fails_all : ∀ a : Fin 256, remontoirlaw11_RetryFails.f 120 a.val = some true := by decide +kernel
theorem RetryFails : remontoirlaw11_RetryFails.Pure := by
  intro a ha
  have hb : 0 ≤ a ∧ a < 256 := by have := Go.bounds_u8 ha; omega
  have h := fails_all ⟨a.toNat, by omega⟩
  simp only [show ((a.toNat : Nat) : Int) = a by omega] at h
  exact ⟨_, h⟩
end Go.Proofs.Ytdefifgllimedaa.Pure
