/- A wheel and a plan of the same timers: what a law's walk keeps, and each call. Conditions: those in each statement. -/
import Derived.Test.YtedolmjealgeoaaDoorPk7
import Derived.Test.YtedolmjealgeoaaDoorGf
import Derived.Test.YtedolmjealgeoaaDoorDu
set_option linter.unusedVariables false
namespace Go.Proofs.YtedolmjealgeoaaDoor.Pn
open Go.RowKit Go.Maps Go.Proofs.YtedolmjealgeoaaDoor.PBase Go.Proofs.YtedolmjealgeoaaDoor.Cat Go.Proofs.YtedolmjealgeoaaDoor.Rg Go.Proofs.YtedolmjealgeoaaDoor.Tk Go.Proofs.YtedolmjealgeoaaDoor.Wh Go.Proofs.YtedolmjealgeoaaDoorW.PrintWords Go.Proofs.YtedolmjealgeoaaDoorW.PrintLast Go.Proofs.YtedolmjealgeoaaDoorW.PrintMore
/-- The wheel at B, the plan in v: both hold P. -/
structure PW (N : Nat) (w : World) (B : Nat) (now : Int) (v : Value) (P : List S31) : Prop where
  wj : WJ N (fun k => v.ownBlock = some k) w B now P
  gd : Gd P
  row : Kd.R k31 31 w N (fun k => v.ownBlock = some k) v P
section
variable {N : Nat} {w w' : World} {B : Nat} {now t : Int} {v v' : Value} {P T P' : List S31}
theorem PW.step (h : PW N w B now v P) (hb : Below w.heap.size w w') : PW N w' B now v P := ⟨h.wj.step hb, h.gd, Kd.R_below h.row hb⟩
theorem PW.ok (h : PW N w B now v P) : Ok P := h.wj.tt.wf
/-- Behind a call of the wheel. -/
theorem PW.wheel (h : PW N w B now v P) (hJ : WJ N (fun k => v.ownBlock = some k) w' B t P) (hf : Fr (KX N (fun k => v.ownBlock = some k)) w w') : PW N w' B t v P := ⟨hJ, h.gd, R_fw h.row hf⟩
/-- A new plan. -/
theorem PW.row2 {ok : Nat → Prop} (h : WJ N (fun k => v.ownBlock = some k) w B now T) (hk : ∀ k, v.ownBlock = some k → N ≤ k) (hb : Below w.heap.size w w') (hR : Kd.R k31 31 w' w.heap.size ok v' P') (hp : T.Perm P') (gd : Gd P') : PW N w' B now v' P' := by
  have hR2 := Kd.R_mono (Kd.R_tight (d := k31) rfl hR) (ok' := fun k => v'.ownBlock = some k) (fun k hk => hk.symm)
  have hbd := (Kd.R_bound hR2).1
  refine ⟨(h.swap (Fr.of_below hb) (fun k hx => ?_) (fun k hx => ?_)).perm hp, gd, Kd.R_lower hR2 h.base_le⟩
  · have h5 := h.tb.pos
    have := hk k hx
    omega
  · have := hbd k hx
    exact ⟨.inr this.2.1, this.2.2.1⟩
theorem PW.own (h : PW N w B now v P) : ∀ k, v.ownBlock = some k → N ≤ k := fun k hk => ((Kd.R_bound h.row).1 k hk).2.1
theorem PW.nil (h : WJ N (fun _ => False) w B now []) : PW N w B now (.slice none 0 0) [] := ⟨h.sub (fun k hk => by cases hk), ⟨List.nodup_nil, List.Pairwise.nil⟩, Kd.R_nil _ _ _ _ _⟩
theorem gd_rm (h : Gd P) (id : Int) : Gd (rm P id) := ⟨h.1.sublist (List.filter_sublist.map _), h.2.sublist List.filter_sublist⟩
theorem rm_out {id : Int} (h : ¬ id ∈ ids P) : rm P id = P := by
  unfold rm
  rw [List.filter_eq_self]
  intro d hd
  have : d.f0 ≠ id := fun e => h (List.mem_map.2 ⟨d, hd, e⟩)
  simpa using this
theorem gd_split (h : Gd P) (t : Int) : dueT P t = P.filter (le t) ∧ restT P t = P.filter (gt t) := by
  unfold dueT restT
  rw [psort_gd h]
  exact ⟨rfl, rfl⟩
theorem gd_rest (h : Gd P) (t : Int) : Gd (P.filter (gt t)) := ⟨h.1.sublist (List.filter_sublist.map _), h.2.sublist List.filter_sublist⟩
end
end Go.Proofs.YtedolmjealgeoaaDoor.Pn
