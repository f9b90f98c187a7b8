/- What a call keeps: all but some blocks, and what is new. Copies of timers' rows. Conditions: those of each. -/
import Derived.Test.YtedolmjealgeoaaCat
import Derived.Laws.CopyRow
import Derived.Lib.AppendZeros
import Derived.Lib.Overlaps
import Derived.Shelf.Spec.SlicesInsert
namespace Go.Proofs.Ytedolmjealgeoaa.Rg
open Go.RowKit Go.Proofs.Ytedolmjealgeoaa.PBase Go.Proofs.Ytedolmjealgeoaa.Cat Go.Proofs.YtedolmjealgeoaaW.PrintWords Go.Proofs.YtedolmjealgeoaaW.PrintLast Go.Proofs.YtedolmjealgeoaaW.PrintMore
/-- What a call keeps: all but the blocks F, and what is new. -/
structure Fr (F : Nat → Prop) (W W' : World) : Prop where
  os : W'.os = W.os
  tape : W'.tape = W.tape
  out : W'.output = W.output
  size : W.heap.size ≤ W'.heap.size
  blk : ∀ k, k < W.heap.size → ¬ F k → W'.heap[k]? = W.heap[k]?
theorem Fr.refl (F : Nat → Prop) (W : World) : Fr F W W := ⟨rfl, rfl, rfl, Nat.le_refl _, fun _ _ _ => rfl⟩
theorem Fr.of_below {F : Nat → Prop} {W W' : World} (h : Below W.heap.size W W') : Fr F W W' := ⟨h.os, h.tape, h.output, h.size, fun k hk _ => h.block k hk⟩
theorem Fr.of_grown {F : Nat → Prop} {W W' : World} {row : Option Nat} (h : W.grownBy W' row) (hF : ∀ k, row = some k → F k) : Fr F W W' := ⟨h.os, h.tape, h.output, h.size, fun k hk hn => h.block k hk (fun e => hn (hF k e.symm))⟩
theorem Fr.then_ {F F2 : Nat → Prop} {W W1 W2 : World} (h : Fr F W W1) (k : Fr F2 W1 W2) (hF : ∀ b, F2 b → F b ∨ W.heap.size ≤ b) : Fr F W W2 :=
  ⟨k.os.trans h.os, k.tape.trans h.tape, k.out.trans h.out, Nat.le_trans h.size k.size, fun b hb hn => (k.blk b (Nat.lt_of_lt_of_le hb h.size) (fun h2 => by
    rcases hF b h2 with h3 | h3
    · exact hn h3
    · omega)).trans (h.blk b hb hn)⟩
theorem Fr.trans {F : Nat → Prop} {W W1 W2 : World} (h : Fr F W W1) (k : Fr F W1 W2) : Fr F W W2 := Fr.then_ h k (fun _ h => .inl h)
theorem Fr.weak {F F2 : Nat → Prop} {W W1 : World} (h : Fr F W W1) (hF : ∀ k, F k → F2 k) : Fr F2 W W1 := ⟨h.os, h.tape, h.out, h.size, fun k hk hn => h.blk k hk (fun e => hn (hF k e))⟩
theorem Fr.below {F : Nat → Prop} {W W' : World} {base : Nat} (h : Fr F W W') (hb : base ≤ W.heap.size) (hF : ∀ k, F k → base ≤ k) : Below base W W' := ⟨h.os, h.tape, h.out, h.size, fun k hk => h.blk k (Nat.lt_of_lt_of_le hk hb) (fun e => by have := hF k e; omega)⟩
theorem Fr.cell {F : Nat → Prop} {W W' : World} (h : Fr F W W') {a : Addr} {v : Value} (hc : W.cell? a = some v) (hn : ¬ F a.block) : W'.cell? a = some v := by
  rw [World.cell?_of_block (h.blk a.block (World.block_lt_of_cell? W a hc) hn)]
  exact hc
theorem Fr.set (W : World) (g i : Nat) (v : Value) : Fr (fun k => k = g) W (W.setCell ⟨g, i, none⟩ v) := ⟨rfl, rfl, rfl, by simp [World.setCell], fun k hk hn => Below.heap_setCell W ⟨g, i, none⟩ v k hn⟩
theorem Fr.setRow (W : World) (g : Nat) (c : Array Value) : Fr (fun k => k = g) W (W.setRow g c) := by
  refine ⟨rfl, rfl, rfl, by simp [World.setRow], fun k hk hn => ?_⟩
  unfold World.setRow
  simp only [Array.getElem?_modify]
  rw [if_neg (fun e => hn e.symm)]
theorem Fr.drew {F : Nat → Prop} (W : World) : Fr F W W.drew := Fr.of_below (below_drew1 (Below.refl _ _))
theorem Fr.alloc {F : Nat → Prop} (W : World) (o : Obj) : Fr F W (W.alloc o) := Fr.of_below (below_alloc (Below.refl _ _) o)
/-- copy at timers: two cells each. -/
theorem run_copy2 (w : World) (ty : TypeId) (g o dLen dCap : Nat) (a : Addr) (sLen sCap : Nat) (cur : Array Value) (t : TypeId) (cs : List Value)
    (hg : w.heap[g]? = some (.cells cur t (0, 0))) (hn : cs.length = Nat.min sLen dLen * 2)
    (hsrc : ∀ j v, cs[j]? = some v → w.cell? (a.add j) = some v) (hfit : o + cs.length ≤ cur.size) (h1 : ∀ v ∈ cs, v.oneCell' = true) :
    (Builtin.copy_ #[33, 33] ty #[.slice (some ⟨g, o, none⟩) dLen dCap, .slice (some a) sLen sCap]).run Try.prog w =
      .ok (goInt (Nat.min sLen dLen)) (w.setRow g (cur.toList.take o ++ cs ++ cur.toList.drop (o + cs.length)).toArray) := by
  have hl := run_loadCells_list (P := Try.prog) w a cs hsrc
  have hst := run_storeCells_at Try.prog g o t cs 0 cur w hg (by simpa using hfit) h1
  obtain ⟨i0, hi, hzz⟩ := Option.map_eq_some_iff.1 info24
  simp only [Prod.mk.injEq] at hzz
  obtain ⟨hz0, hz1, hz2⟩ := hzz
  simp [Builtin.copy_, run_underlying Try.underlying33, Builtin.lenOf, Builtin.firstCells, sizeOf, typeInfo, hi, hz1, ← hn, hl, hst]
end Go.Proofs.Ytedolmjealgeoaa.Rg
