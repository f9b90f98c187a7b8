/- remontoirkeep.Dues of a list and itself as a call. Conditions: both read. -/
import Derived.Test.YtedolmjealgeoaaDoorGa
set_option linter.unusedVariables false
namespace Go.Proofs.YtedolmjealgeoaaDoor.Wh
open Go.RowKit Go.Maps Go.Proofs.YtedolmjealgeoaaDoor.PBase Go.Proofs.YtedolmjealgeoaaDoor.Cat Go.Proofs.YtedolmjealgeoaaDoorW.PrintWords Go.Proofs.YtedolmjealgeoaaDoorW.PrintLast Go.Proofs.YtedolmjealgeoaaDoorW.PrintMore
theorem dues_from (L : List S31) (hl : L.length ≤ 17592186044416) : ∀ (d : Nat) (i : Int), 0 ≤ i → (L.length : Int) - i = d → remontoirkeep_Dues.l0 (d + 1) L L i = some true
  | 0, i, h0, hd => by
    unfold remontoirkeep_Dues.l0
    rw [if_neg (by omega)]
  | d + 1, i, h0, hd => by
    have hi : i < (L.length : Int) := by omega
    have hw : wrap64 (i + 1) = i + 1 := by unfold wrap64; omega
    rw [remontoirkeep_Dues.l0, if_pos hi, if_pos h0, if_pos hi, if_neg (by simp), hw]
    exact dues_from L hl d (i + 1) (by omega) (by omega)
theorem dues_calls {L : List S31} {W : World} {b1 b2 : Nat} {o1 o2 : Nat → Prop} {v1 v2 : Value} (h1 : Kd.R k31 31 W b1 o1 v1 L) (h2 : Kd.R k31 31 W b2 o2 v2 L) (hl : L.length ≤ 1000000) : Calls Tryd.prog 19 #[v1, v2] W fun e w' => e = .returned (.bool true) ∧ Below W.heap.size W w' := by
  obtain ⟨A1, c1, rfl, k1, C1⟩ := Kd.R_reads h1
  obtain ⟨A2, c2, rfl, k2, C2⟩ := Kd.R_reads h2
  have hf : remontoirkeep_Dues.f (L.length + 1) L L = some true := by
    unfold remontoirkeep_Dues.f
    rw [if_pos rfl]
    exact dues_from L (Nat.le_trans hl (by decide)) L.length 0 (Int.le_refl 0) (by omega)
  refine (remontoirkeep_Dues.calls _ A1 c1 L A2 c2 L true W C1 k1 C2 k2 hf).mono ?_
  rintro e w' ⟨rfl, h⟩
  exact ⟨rfl, h.below⟩
end Go.Proofs.YtedolmjealgeoaaDoor.Wh
