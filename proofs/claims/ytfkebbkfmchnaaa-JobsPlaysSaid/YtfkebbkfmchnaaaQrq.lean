/- The reference's queue in memory; find, Drop, Put, Take as calls. Conditions: the queue lies in memory as told. -/
import Derived.Test.YtfkebbkfmchnaaaQrf
import Derived.Test.YtfkebbkfmchnaaaGb
namespace Go.Proofs.Ytfkebbkfmchnaaa.Ln
open Go.RowKit Go.Proofs.Ytfkebbkfmchnaaa.PBase Go.Proofs.Ytfkebbkfmchnaaa.PRef Go.Proofs.Ytfkebbkfmchnaaa.Cat Go.Proofs.Ytfkebbkfmchnaaa.Heap Go.Proofs.YtfkebbkfmchnaaaW.PrintWords Go.Proofs.YtfkebbkfmchnaaaW.PrintLast Go.Proofs.YtfkebbkfmchnaaaW.PrintMore
set_option linter.unusedVariables false
/-- A reference's queue: a block of its own, or the head of a book's. -/
inductive RK where
  | small (b : Nat)
  | big (b : Nat) (x4 x5 x6 x7 : Value)
def RK.b : RK → Nat
  | .small b => b
  | .big b _ _ _ _ => b
def RK.ty : RK → TypeId
  | .small _ => 90
  | .big _ _ _ _ _ => 96
def RK.cells (R : RK) (a r c v : Value) : Array Value := match R with
  | .small _ => #[a, r, c, v]
  | .big _ x4 x5 x6 x7 => #[a, r, c, v, x4, x5, x6, x7]
instance : Coe RK Nat := ⟨RK.b⟩
theorem RK.c0 (R : RK) (a r c v : Value) : (R.cells a r c v)[0]? = some a := by cases R <;> rfl
theorem RK.c1 (R : RK) (a r c v : Value) : (R.cells a r c v)[1]? = some r := by cases R <;> rfl
theorem RK.c2 (R : RK) (a r c v : Value) : (R.cells a r c v)[2]? = some c := by cases R <;> rfl
theorem RK.c3 (R : RK) (a r c v : Value) : (R.cells a r c v)[3]? = some v := by cases R <;> rfl
theorem RK.s2 {R : RK} {w : World} {a r c v : Value} {g : Nat} (h : w.heap[g]? = some (.cells (R.cells a r c v) R.ty (0, 0))) (x : Value) : (w.setCell ⟨g, 2, none⟩ x).heap[g]? = some (.cells (R.cells a r x v) R.ty (0, 0)) := by
  cases R <;> exact blk_set h 2 x
theorem RK.s3 {R : RK} {w : World} {a r c v : Value} {g : Nat} (h : w.heap[g]? = some (.cells (R.cells a r c v) R.ty (0, 0))) (x : Value) : (w.setCell ⟨g, 3, none⟩ x).heap[g]? = some (.cells (R.cells a r c x) R.ty (0, 0)) := by
  cases R <;> exact blk_set h 3 x
/-- The reference's queue: its block, and a row that is never written again. -/
structure RS (N : Nat) (w : World) (R : RK) (v : Value) (ag rm ct : Int) (L : List S77) : Prop where
  g : w.heap[R.b]? = some (.cells (R.cells (.int .i64 ag) (.int .i64 rm) (.int .i64 ct) v) R.ty (0, 0))
  r : Kd.R k77 77 w N (fun k => v.ownBlock = some k ∧ k ≠ R) v L
  nr : N ≤ R
section
variable {N : Nat} {w w' : World} {R : RK} {v : Value} {ag rm ct : Int} {L : List S77}
theorem RS.keep {F : Nat → Prop} (h : RS N w R v ag rm ct L) (hf : Fr F w w') (h1 : ¬ F R) (h2 : ∀ k, v.ownBlock = some k → ¬ F k) : RS N w' R v ag rm ct L :=
  ⟨(hf.blk R (blk_lt h.g) h1).trans h.g, Kd.R_kept h.r (S := F) ⟨hf.size, fun i hi hn => hf.blk i hi hn⟩ (fun k hk => h2 k hk.1), h.nr⟩
theorem RS.step (h : RS N w R v ag rm ct L) (hb : Below w.heap.size w w') : RS N w' R v ag rm ct L := h.keep (F := fun _ => False) (Fr.of_below hb) (fun h => h) (fun _ _ h => h)
theorem find_step {id : Int} {L : List S77} {i : Nat} (hi : i < L.length) : Lib.idxByFrom (fun _ y : S77 => y.f0 == id) default (L.drop i) i = if L[i].f0 = id then (i : Int) else Lib.idxByFrom (fun _ y : S77 => y.f0 == id) default (L.drop (i + 1)) (i + 1) := by
  rw [List.drop_eq_getElem_cons hi]
  conv => lhs; unfold Lib.idxByFrom
  by_cases c2 : L[i].f0 = id
  · rw [if_pos c2, if_pos (by simpa using c2)]
  · rw [if_neg c2, if_neg (by simpa using c2)]
set_option maxHeartbeats 4000000 in
set_option maxRecDepth 100000 in
theorem rfind_calls (h : RS N w R v ag rm ct L) (id : Int) (hl : L.length ≤ 1000000) : Calls Try.prog 62 #[.pointer (some ⟨R, 0, none⟩), .int .i64 id] w fun e w' => e = .returned (.int .i64 (place L id)) ∧ Below w.heap.size w w' := by
  have c3 : w.cell? ⟨R, 3, none⟩ = some v := (blk_cell h.g 3).trans (RK.c3 _ _ _ _ _)
  obtain ⟨A, c, rfl, hc, hC⟩ := Kd.R_reads h.r
  have HC := Aside0.mk hC
  have hP : Aside0 (place L id = Lib.idxByFrom (fun _ y : S77 => y.f0 == id) default (L.drop 0) 0) := ⟨by simp [place, Lib.idxBy]⟩
  clear hC hc
  go_enter Try.func62, Try.ntmps62
  go_wp2
  go_loopg [5] L.length (fun gg v5 wr => ∃ i : Nat, v5 = .int .i64 i ∧ i ≤ L.length ∧ L.length - i ≤ gg ∧ wr = w ∧ Aside0 (place L id = Lib.idxByFrom (fun _ y : S77 => y.f0 == id) default (L.drop i) i))
  case atStart => exact ⟨0, rfl, Nat.zero_le _, by omega, rfl, hP⟩
  case round =>
    obtain ⟨i, rfl, hil, hgg, rfl, hQ⟩ := hrel
    clear hP
    by_cases hi : i < L.length
    · have hi2 : (i : Int) < (L.length : Int) := by omega
      have p1 := eq_true (show 0 ≤ (i : Int) by omega)
      obtain ⟨ad, e1, hx0, _, _⟩ := at_T77 HC.out (i : Int) (by omega) hi2
      subst e1
      rw [Int.toNat_natCast, rd_get hi] at hx0
      have hst := find_step (id := id) hi
      have hst := Aside0.mk hst
      have hl2 : (L.length : Int) ≤ 1000000 := by omega
      by_cases hd : L[i].f0 = id
      · replace hQ : Aside0 (place L id = (i : Int)) := ⟨by rw [hQ.out, hst.out, if_pos hd]⟩
        clear hst
        go_wp2
        go_ret
        exact ⟨by rw [hQ.out]; rfl, Below.refl _ _⟩
      · replace hQ : Aside0 (place L id = Lib.idxByFrom (fun _ y : S77 => y.f0 == id) default (L.drop (i + 1)) (i + 1)) := ⟨by rw [hQ.out, hst.out, if_neg hd]⟩
        clear hst
        go_wp2
        go_roundg (L.length - (i + 1))
        case measure => omega
        case rel => exact ⟨i + 1, by go_num, by omega, Nat.le_refl _, rfl, hQ⟩
    · have hi2 : ¬ (i : Int) < (L.length : Int) := by omega
      replace hQ : Aside0 (place L id = -1) := ⟨by rw [hQ.out, List.drop_eq_nil_of_le (by omega)]; rfl⟩
      go_wp2
      go_ret
      exact ⟨by rw [hQ.out]; rfl, Below.refl _ _⟩
end
end Go.Proofs.Ytfkebbkfmchnaaa.Ln
