/- The reference's ring in memory; find, Put, List as calls. Conditions: the ring lies in memory as told. -/
import Derived.Test.YtedolmjealgeoaaDoorLc
import Derived.Test.YtedolmjealgeoaaDoorGd
set_option linter.unusedVariables false
namespace Go.Proofs.YtedolmjealgeoaaDoor.Rg
open Go.RowKit Go.Maps Go.Proofs.YtedolmjealgeoaaDoor.PBase Go.Proofs.YtedolmjealgeoaaDoor.Cat Go.Proofs.YtedolmjealgeoaaDoorW.PrintWords Go.Proofs.YtedolmjealgeoaaDoorW.PrintLast Go.Proofs.YtedolmjealgeoaaDoorW.PrintMore
/-- The place of a number; -1. -/
def plc (id : Int) : List S114 → Int → Int
  | [], _ => -1
  | l :: T, i => if l.f1.f0 = id then i else plc id T (i + 1)
theorem plc_spec (id : Int) : ∀ (T : List S114) (i : Int), (plc id T i = -1 ∧ id ∉ tid T) ∨ ∃ k : Nat, ∃ hk : k < T.length, plc id T i = i + k ∧ T[k].f1.f0 = id
  | [], i => .inl ⟨rfl, by simp [tid]⟩
  | l :: T, i => by
    unfold plc
    by_cases h : l.f1.f0 = id
    · rw [if_pos h]
      exact .inr ⟨0, by simp, by simp, h⟩
    · rw [if_neg h]
      rcases plc_spec id T (i + 1) with ⟨e, hn⟩ | ⟨k, hk, e, ht⟩
      · exact .inl ⟨e, by simp [tid] at hn ⊢; exact ⟨fun e => h e.symm, hn⟩⟩
      · exact .inr ⟨k + 1, by simpa using hk, by rw [e]; omega, by simpa using ht⟩
theorem plc_step {id : Int} {T : List S114} {i : Nat} (hi : i < T.length) : plc id (T.drop i) i = if T[i].f1.f0 = id then (i : Int) else plc id (T.drop (i + 1)) ((i + 1 : Nat) : Int) := by
  rw [List.drop_eq_getElem_cons hi]
  rfl
theorem rd114 (T : List S114) (i : Nat) (h : i < T.length) : rd_T114 T (i : Int) = T[i] := by simp [rd_T114, h]
/-- The reference's ring: its block, and its row. -/
structure RS (N : Nat) (w : World) (R : Nat) (v : Value) (T : List S114) : Prop where
  g : w.heap[R]? = some (.cells #[v] 28 (0, 0))
  r : Kd.R k114 114 w N (fun k => v.ownBlock = some k ∧ k ≠ R) v T
  nr : N ≤ R
/-- Its blocks. -/
abbrev X2 (R : Nat) (v : Value) (k : Nat) : Prop := k = R ∨ v.ownBlock = some k
section
variable {N : Nat} {w w' : World} {R : Nat} {v : Value} {T : List S114}
theorem RS.keep {F : Nat → Prop} (h : RS N w R v T) (hf : Fr F w w') (hX : ∀ k, X2 R v k → ¬ F k) : RS N w' R v T :=
  ⟨(hf.blk R (blk_lt h.g) (hX R (.inl rfl))).trans h.g, Kd.R_kept h.r (S := F) ⟨hf.size, fun i hi hn => hf.blk i hi hn⟩ (fun k hk => hX k (.inr hk.1)), h.nr⟩
theorem RS.step (h : RS N w R v T) (hb : Below w.heap.size w w') : RS N w' R v T := h.keep (F := fun _ => False) (Fr.of_below hb) (fun _ _ h => h)
set_option maxHeartbeats 4000000 in
set_option maxRecDepth 100000 in
theorem rfind_calls (h : RS N w R v T) (id : Int) (hl : T.length ≤ 1000000) : Calls Tryd.prog 62 #[.pointer (some ⟨R, 0, none⟩), .int .i64 id] w fun e w' => e = .returned (.int .i64 (plc id T 0)) ∧ Below w.heap.size w w' := by
  have c3 : w.cell? ⟨R, 0, none⟩ = some v := (blk_cell h.g 0).trans rfl
  obtain ⟨A, c, rfl, hc, hC⟩ := Kd.R_reads h.r
  have HC := Aside0.mk hC
  have hP : Aside0 (plc id T 0 = plc id (T.drop 0) ((0 : Nat) : Int)) := ⟨rfl⟩
  clear hC hc
  go_enter Tryd.func62, Tryd.ntmps62
  go_wp2
  go_loopg [5] T.length (fun gg v5 wr => ∃ i : Nat, v5 = .int .i64 i ∧ i ≤ T.length ∧ T.length - i ≤ gg ∧ wr = w ∧ Aside0 (plc id T 0 = plc id (T.drop i) (i : Int)))
  case atStart => exact ⟨0, rfl, Nat.zero_le _, by omega, rfl, hP⟩
  case round =>
    obtain ⟨i, rfl, hil, hgg, rfl, hQ⟩ := hrel
    clear hP
    by_cases hi : i < T.length
    · have hi2 : (i : Int) < (T.length : Int) := by omega
      have p1 := eq_true (show 0 ≤ (i : Int) by omega)
      obtain ⟨ad, e1, _, hx1, _⟩ := at_T114 HC.out (i : Int) (by omega) hi2
      subst e1
      rw [Int.toNat_natCast, rd114 T i hi] at hx1
      have hst := Aside0.mk (plc_step (id := id) hi)
      by_cases hd : T[i].f1.f0 = id
      · replace hQ : Aside0 (plc id T 0 = (i : Int)) := ⟨by rw [hQ.out, hst.out, if_pos hd]⟩
        clear hst
        go_wp2
        go_ret
        exact ⟨by rw [hQ.out]; rfl, Below.refl _ _⟩
      · replace hQ : Aside0 (plc id T 0 = plc id (T.drop (i + 1)) ((i + 1 : Nat) : Int)) := ⟨by rw [hQ.out, hst.out, if_neg hd]⟩
        clear hst
        go_wp2
        go_roundg (T.length - (i + 1))
        case measure => omega
        case rel => exact ⟨i + 1, by go_num, by omega, Nat.le_refl _, rfl, hQ⟩
    · have hi2 : ¬ (i : Int) < (T.length : Int) := by omega
      replace hQ : Aside0 (plc id T 0 = -1) := ⟨by rw [hQ.out, List.drop_eq_nil_of_le (by omega)]; rfl⟩
      go_wp2
      go_ret
      exact ⟨by rw [hQ.out]; rfl, Below.refl _ _⟩
/-- Where a call leaves the reference's ring. -/
def RSo (N : Nat) (w : World) (R : Nat) (v : Value) (w' : World) (T : List S114) : Prop := ∃ v', RS N w' R v' T ∧ Fr (X2 R v) w w' ∧ (v'.ownBlock = v.ownBlock ∨ ∀ b, v'.ownBlock = some b → w.heap.size ≤ b)
theorem RS.go (h : RS N w R v T) (hb : Below w.heap.size w w') : RSo N w R v w' T := ⟨v, h.step hb, Fr.of_below hb, .inl rfl⟩
/-- A call of the reference keeps the ring, and the other way about. -/
theorem RJ.r {X : Nat → Prop} {B : Nat} {U T2 : List S114} (hq : RJ N (fun k => X k ∨ X2 R v k) w B U) (hX : ∀ k, X k → ¬ X2 R v k) (h : RS N w R v T) (hg : RSo N w R v w' T2) : ∃ v', RS N w' R v' T2 ∧ RJ N (fun k => X k ∨ X2 R v' k) w' B U ∧ (∀ k, X k → ¬ X2 R v' k) ∧ Fr (X2 R v) w w' := by
  obtain ⟨v', h1, hf, hat⟩ := hg
  have hxs := hq.xs
  refine ⟨v', h1, hq.swap (hf.weak (fun k e => .inr e)) (fun k hk => ?_), fun k hk e => ?_, hf⟩
  · rcases hk with hk | rfl | hk
    · exact ⟨.inl (.inl hk), Nat.lt_of_lt_of_le (hxs k (.inl hk)) hf.size⟩
    · exact ⟨.inl (.inr (.inl rfl)), blk_lt h1.g⟩
    · refine ⟨?_, own_lt (C3.own_of_R h1.r) k hk⟩
      rcases hat with e | hat
      · exact .inl (.inr (.inr (by rw [← e]; exact hk)))
      · exact .inr (hat k hk)
  · rcases e with rfl | e
    · exact hX _ hk (.inl rfl)
    · rcases hat with e2 | hat
      · exact hX k hk (.inr (by rw [← e2]; exact e))
      · have := hat k e
        have := hxs k (.inl hk)
        omega
end
end Go.Proofs.YtedolmjealgeoaaDoor.Rg
