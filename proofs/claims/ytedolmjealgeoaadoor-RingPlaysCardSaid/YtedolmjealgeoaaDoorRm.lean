/- The reference's ring: Mask as a call. Conditions: the ring lies in memory as told. -/
import Derived.Test.YtedolmjealgeoaaDoorRx
import Derived.Test.YtedolmjealgeoaaDoorMr
set_option linter.unusedVariables false
namespace Go.Proofs.YtedolmjealgeoaaDoor.Rg
open Go.RowKit Go.Maps Go.Proofs.YtedolmjealgeoaaDoor.PBase Go.Proofs.YtedolmjealgeoaaDoor.Cat Go.Proofs.YtedolmjealgeoaaDoorW.PrintWords Go.Proofs.YtedolmjealgeoaaDoorW.PrintLast Go.Proofs.YtedolmjealgeoaaDoorW.PrintMore
section
variable {N : Nat} {w w' : World} {R : Nat} {v : Value} {T : List S114}
set_option maxHeartbeats 4000000 in
set_option maxRecDepth 100000 in
/-- The reference's Mask. -/
theorem rmask_calls (h : RS N w R v T) (hl : T.length ≤ 100000) :
    Calls Tryd.prog 68 #[.pointer (some ⟨R, 0, none⟩)] w fun e w' => e = .returned (.int .u64 (Mk.set_ 0 (T.map (·.f0)))) ∧ Below w.heap.size w w' := by
  have c3 : w.cell? ⟨R, 0, none⟩ = some v := (blk_cell h.g 0).trans rfl
  have hRlt := blk_lt h.g
  obtain ⟨A, c, rfl, hc, hC⟩ := Kd.R_reads h.r
  have HC := Aside0.mk hC
  have HC3 := Aside0.mk c3
  clear hC hc h c3
  go_enter Tryd.func68, Tryd.ntmps68
  go_wp2
  go_loopg [3, 4] T.length (fun gg v3 v4 wr => ∃ (i : Nat) (vo : Value), vo = v3 ∧ v4 = .int .i64 i ∧ i ≤ T.length ∧ T.length - i ≤ gg ∧ Aside0 (Kd.R (Kd.int .i64) 3 wr w.heap.size (fun _ => True) vo ((T.take i).map (·.f0))) ∧ Aside0 (Below w.heap.size w wr))
  case atStart => exact ⟨0, _, rfl, rfl, Nat.zero_le _, by omega, ⟨Kd.R_nil _ _ _ _ _⟩, ⟨Below.refl _ _⟩⟩
  case round =>
    obtain ⟨i, vo, rfl, rfl, hil, hgg, HO, HB⟩ := hrel
    have c4 : wr.cell? ⟨R, 0, none⟩ = some (.slice A T.length c) := (HB.out.cell hRlt).trans HC3.out
    by_cases hi : i < T.length
    · have hi2 : (i : Int) < (T.length : Int) := by omega
      have p1 := eq_true (show 0 ≤ (i : Int) by omega)
      obtain ⟨ad, e1, hx0, hx1, hx2⟩ := at_T114 (Kd.C_below HC.out HB.out) (i : Int) (by omega) hi2
      subst e1
      rw [Int.toNat_natCast, rd114 T i hi] at hx0 hx1 hx2
      clear hx1 hx2
      have hst : (T.take (i + 1)).map (·.f0) = (T.take i).map (·.f0) ++ [T[i].f0] := by rw [List.take_succ_eq_append_getElem hi, List.map_append]; rfl
      have HST := Aside0.mk hst
      have hlen : ((T.take i).map (·.f0)).length = i := by simp; omega
      have HLEN := Aside0.mk hlen
      clear hst hlen
      go_wp2_with (at_builtin; refine Kd.R_append (Kd.int .i64) (w0 := w) w.heap.size rfl (.tmp 14) (.tmp 23) 139 3 (.int .i64 0) 8 rfl Tryd.underlying139 info3 rfl (by decide) (by omega) vo ((T.take i).map (·.f0)) T[i].f0 [.int .i64 T[i].f0] (fun _ => True) (fun _ => False) rfl rfl ?aP (fun _ hk => hk.elim) ?aF ?aO ?aB ?aS ?aL ?_; (case aP => exact rfl); (case aB => first | exact HB.out | exact below_alloc HB.out _); (case aF => exact (fun _ _ => trivial)); (case aO => first | exact HO.out | exact Kd.R_alloc HO.out _); (case aS => first | exact HB.out.size | exact Nat.le_trans HB.out.size (below_alloc (Below.refl wr.heap.size wr) _).size); (case aL => have := HLEN.out; omega); intro v1 w8 ho hb hg hat; rw [← HST.out] at ho; have HR1 := Aside0.mk ho; have HB1 := Aside0.mk hb; clear ho hb hg hat)
      go_roundg (T.length - (i + 1))
      case measure => omega
      case rel => exact ⟨i + 1, _, rfl, by go_num, by omega, Nat.le_refl _, HR1, HB1⟩
    · have hi2 : ¬ (i : Int) < (T.length : Int) := by omega
      have HO2 := HO.out
      rw [List.take_of_length_le (by omega)] at HO2
      have hl5 : (T.map (·.f0)).length ≤ 17592186044416 := Nat.le_trans (Nat.le_of_eq (List.length_map _)) (Nat.le_trans hl (by decide))
      obtain ⟨l5, hl5e⟩ : ∃ l, l = T.map (·.f0) := ⟨_, rfl⟩
      rw [← hl5e] at HO2 hl5
      have HL5 := Aside0.mk hl5e
      clear hl5e
      obtain ⟨A5, c5, rfl, hc5, hC5⟩ := Kd.R_reads HO2
      have hof := Mk.rof l5 hl5 0
      have hs := remontoirref04_Of.calls _ A5 c5 l5 _ wr hC5 hc5 hof
      clear hC5 HO2 hc5 hof
      go_wp2_with (go_at_call 93; refine hs.mono ?_; rintro e w1 ⟨rfl, hb1⟩)
      go_ret
      exact ⟨by rw [HL5.out]; rfl, below_step HB.out hb1⟩
end
end Go.Proofs.YtedolmjealgeoaaDoor.Rg
