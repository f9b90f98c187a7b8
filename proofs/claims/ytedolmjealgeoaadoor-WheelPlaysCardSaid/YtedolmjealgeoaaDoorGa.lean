/- Rows of timers, their cells laid flat: what reads, what is the call's own; an append onto a slice that is cut to its length makes a new row. Conditions: those of each. -/
import Derived.Test.YtedolmjealgeoaaDoorPBasex4
import Derived.Maps.OwnOps
import Derived.Maps.Views
import Derived.Maps.OwnSet
import Derived.Deep.QuietTactic
import Derived.BigQuiet
import Derived.StillTailTactics
import Derived.Laws.CopyRow
import Derived.Lib.AppendZeros
import Derived.Lib.Overlaps
import Derived.Shelf.Spec.SlicesInsert
import Derived.Lib.AppendZerosOnto
namespace Go.Proofs.YtedolmjealgeoaaDoor.Cat
open Go.RowKit Go.Proofs.YtedolmjealgeoaaDoor.PBase Go.Proofs.YtedolmjealgeoaaDoorW.PrintWords Go.Proofs.YtedolmjealgeoaaDoorW.PrintLast Go.Proofs.YtedolmjealgeoaaDoorW.PrintMore
/-- A timer's two cells. -/
def enc (x : S31) : List Value := [.int .i64 x.f0, .int .u64 x.f1]
def flat (xs : List S31) : List Value := xs.flatMap enc
theorem flat_cons (x : S31) (xs : List S31) : flat (x :: xs) = enc x ++ flat xs := rfl
theorem flat_append (xs ys : List S31) : flat (xs ++ ys) = flat xs ++ flat ys := by simp [flat]
theorem flat_len (xs : List S31) : (flat xs).length = xs.length * 2 := by
  induction xs with
  | nil => rfl
  | cons x xs ih => rw [flat_cons, List.length_append, ih]; simp [enc]; omega
theorem flat_one {xs : List S31} : ∀ u ∈ flat xs, u.oneCell' = true := by
  intro u hu
  obtain ⟨x, _, hu⟩ := List.mem_flatMap.1 hu
  simp only [enc, List.mem_cons, List.not_mem_nil, or_false] at hu
  rcases hu with rfl | rfl <;> rfl
theorem reps_flat {R : S31 → List Value → Prop} (hR : ∀ x, R x (enc x)) (xs : List S31) : Reps R 2 xs (flat xs) := by
  refine ⟨flat_len xs, fun j p hj => ?_⟩
  induction xs generalizing j with
  | nil => simp at hj
  | cons x xs ih =>
    rw [flat_cons]
    cases j with
    | zero =>
      have : x = p := by simpa using hj
      subst this
      exact hR x
    | succ j =>
      have e : (enc x ++ flat xs).drop ((j + 1) * 2) = (flat xs).drop (j * 2) := by
        rw [show (j + 1) * 2 = (enc x).length + j * 2 by simp [enc]; omega, ← List.drop_drop, List.drop_left]
      rw [e]
      exact ih j (by simpa using hj)
theorem flat_of_reps {R : S31 → List Value → Prop} (hR : ∀ x cs, R x cs → cs = enc x) : ∀ (xs : List S31) (cs : List Value), Reps R 2 xs cs → cs = flat xs := by
  intro xs
  induction xs with
  | nil => intro cs h; exact List.eq_nil_of_length_eq_zero (by simpa using h.1)
  | cons x xs ih =>
    intro cs h
    have h0 := hR _ _ (h.2 0 x rfl)
    rw [Nat.zero_mul, List.drop_zero] at h0
    have h1 := ih (cs.drop 2) ⟨by rw [List.length_drop, h.1, List.length_cons]; omega, fun j p hj => by
      have := h.2 (j + 1) p (by simpa using hj)
      rwa [List.drop_drop, show 2 + j * 2 = (j + 1) * 2 by omega]⟩
    rw [flat_cons, ← h0, ← h1, List.take_append_drop]
section
variable {w : World} {base n c : Nat} {ok : Nat → Prop} {v : Value} {xs : List S31}
theorem R_of_own (h : w.ownsRow base 31 2 v xs.length (flat xs)) : Kd.R k31 31 w base (fun _ => True) v xs :=
  ⟨fun _ _ => trivial, flat xs, h, reps_flat (fun x => k31_mkM _ _ _ x) xs⟩
theorem own_of_R (h : Kd.R k31 31 w base ok v xs) : w.ownsRow base 31 2 v xs.length (flat xs) := by
  obtain ⟨_, inner, ho, hr⟩ := h
  rw [← flat_of_reps (fun x cs hc => k31_openM hc) xs inner hr]
  exact ho
theorem C_cells {ad : Addr} (h : Kd.C k31 w (some ad) n xs) : ∀ j u, (flat xs)[j]? = some u → w.cell? (ad.add j) = some u := by
  obtain ⟨inner, hr, hc⟩ := ReadsRow.inner_ h
  rw [← flat_of_reps (fun x cs hc => k31_open hc) xs inner hr]
  exact hc
theorem C_of_cells {ad : Addr} (hn : xs.length = n) (hm : n ≤ 9223372036854775807) (h : ∀ j u, (flat xs)[j]? = some u → w.cell? (ad.add j) = some u) : Kd.C k31 w (some ad) n xs := by
  refine ⟨hn, hm, fun _ => ⟨ad, rfl, fun j p hj => ⟨enc p, rfl, k31_mk _ _, fun i u hu => h (j * 2 + i) u ?_⟩⟩⟩
  have h2 := (reps_flat (R := fun x cs => cs = enc x) (fun x => rfl) xs).2 j p hj
  have hi : i < 2 := by have := (List.getElem?_eq_some_iff.1 hu).1; simpa [enc] using this
  rw [← h2, List.getElem?_take, if_pos hi, List.getElem?_drop] at hu
  exact hu
theorem C_one (d : S31) : Kd.C k31 (w.alloc (.cells #[.int .i64 d.f0, .int .u64 d.f1] 31)) (some ⟨w.heap.size, 0, none⟩) 1 [d] := by
  refine C_of_cells rfl (by omega) fun j u hu => ?_
  match j with
  | 0 => simpa [flat, enc, Addr.add] using hu
  | 1 => simpa [flat, enc, Addr.add] using hu
  | j + 2 => simp [flat, enc] at hu
end
section
variable {ops : Array Oper} {rest : List Oper} {o : Oper} {a : Act} {Q : Exit → Act → World → Prop}
/-- append(x[:k:k], ys...), ys not empty: a new row. -/
theorem append_full {w0 W : World} (hgd : o.guard = none) (s x : Operand) (ho : o.op = .call { callee := .builtin .append, args := #[s, x], argTypes := #[42, 42] })
    (A : Option Addr) (n : Nat) (xs : List S31) (hs : a.eval s = .slice A n n) (HC : Kd.C k31 W A n xs) (A' : Option Addr) (m c : Nat) (ys : List S31) (hx : a.eval x = .slice A' m c) (HR : Kd.C k31 W A' m ys) (hm : 0 < m)
    (HB : Below w0.heap.size w0 W) (hl : (n + m) * 16 ≤ 140737488355328)
    (h : ∀ v1 w1, Kd.R k31 31 w1 W.heap.size (fun _ => True) v1 (xs ++ ys) → Below w0.heap.size w0 w1 → Below W.heap.size W w1 → wpList Tryd.prog ops Q rest (a.put o.dst v1) w1) :
    wpList Tryd.prog ops Q (o :: rest) a W := by
  obtain ⟨ad, rfl, _⟩ := HR.2.2 hm
  obtain ⟨i0, hi, hzz⟩ := Option.map_eq_some_iff.1 info31
  simp only [Prod.mk.injEq] at hzz
  obtain ⟨hz0, hz1, hz2⟩ := hzz
  have hxl : xs.length = n := HC.1
  have hyl : ys.length = m := HR.1
  refine wpList_append_grows W hgd s x 42 ho 31 i0 _ 2 16 Tryd.underlying42 hi hz0 hz1 hz2 rfl (by decide) A n n (flat xs) hs (fun hA => ?_) (by rw [flat_len, hxl]) (fun b hb => by subst hb; exact C_cells HC) ad m c (flat ys) hx (by rw [flat_len, hyl]) (C_cells HR) flat_one (by omega) (by unfold maxLen; omega) hl ?_
  · rcases Nat.eq_zero_or_pos n with h0 | h0
    · exact ⟨h0, h0⟩
    · obtain ⟨ad', he, _⟩ := HC.2.2 h0
      rw [hA] at he; cases he
  · intro v1 w1 hown hg
    have hbw : Below W.heap.size W w1 := ⟨hg.os, hg.tape, hg.output, hg.size, fun k hk => hg.block k hk (by simp)⟩
    refine h v1 w1 (R_of_own ?_) (below_step HB hbw) hbw
    rw [← flat_append, ← hxl, ← hyl, ← List.length_append] at hown
    exact hown
end
/-- append(v, ys...), v the call's own, as a run. -/
theorem run_rows {W : World} {base : Nat} {ok : Nat → Prop} {v : Value} {xs : List S31} (ty : TypeId) (A : Option Addr) (m c : Nat) (ys : List S31) (HO : Kd.R k31 31 W base ok v xs) (HR : Kd.C k31 W A m ys) (hbase : base ≤ W.heap.size) (hl : (xs.length + m) * 16 ≤ 140737488355328) :
    ∃ v1 w1, (Builtin.append_ #[42, 42] ty #[v, .slice A m c]).run Tryd.prog W = .ok v1 w1 ∧ Kd.R k31 31 w1 base (fun _ => True) v1 (xs ++ ys) ∧ Below base W w1 := by
  obtain ⟨i0, hi, hzz⟩ := Option.map_eq_some_iff.1 info31
  simp only [Prod.mk.injEq] at hzz
  obtain ⟨hz0, hz1, hz2⟩ := hzz
  have hyl : ys.length = m := HR.1
  have hown := own_of_R HO
  rcases A with _ | ad
  · have h0 : m = 0 := by
      rcases Nat.eq_zero_or_pos m with h0 | h0
      · exact h0
      · obtain ⟨ad, h, _⟩ := HR.2.2 h0
        cases h
    subst h0
    obtain rfl : ys = [] := List.eq_nil_of_length_eq_zero hyl
    refine ⟨v, W, ?_, by rw [List.append_nil]; exact Kd.R_mono HO (fun _ _ => trivial), Below.refl _ _⟩
    rcases hown.2 with ⟨rfl, hn⟩ | ⟨g, cap, cur, rfl, _, _, hnc, _⟩
    · simp [Builtin.append_, run_underlying Tryd.underlying42, sizeOf, typeInfo, hi, Builtin.lenOf, Builtin.firstCells]
    · simp [Builtin.append_, run_underlying Tryd.underlying42, sizeOf, typeInfo, hi, Builtin.lenOf, Builtin.firstCells, hnc, storeCells]
  · obtain ⟨v1, w1, hrun, h2, hg, _, _⟩ := run_append_own_at (P := Tryd.prog) W base 42 ty 31 i0 _ 2 16 Tryd.underlying42 hi hz0 hz1 hz2 rfl (by decide) v xs.length (flat xs) hown ad m c (flat ys) (by rw [flat_len, hyl]) (C_cells HR) flat_one (by simp only [maxLen]; omega) hl hbase
    refine ⟨v1, w1, hrun, R_of_own ?_, ⟨hg.os, hg.tape, hg.output, hg.size, fun k hk => hg.block k (Nat.lt_of_lt_of_le hk hbase) (fun he => by have := own_base hown k he.symm; omega)⟩⟩
    rw [← flat_append, ← hyl, ← List.length_append] at h2
    exact h2
/-- append(x[:k:k], ys...), ys not empty, as a run. -/
theorem run_full {W : World} (ty : TypeId) (A : Option Addr) (n : Nat) (xs : List S31) (HC : Kd.C k31 W A n xs) (A' : Option Addr) (m c : Nat) (ys : List S31) (HR : Kd.C k31 W A' m ys) (hm : 0 < m) (hl : (n + m) * 16 ≤ 140737488355328) :
    ∃ v1 w1, (Builtin.append_ #[42, 42] ty #[.slice A n n, .slice A' m c]).run Tryd.prog W = .ok v1 w1 ∧ Kd.R k31 31 w1 W.heap.size (fun _ => True) v1 (xs ++ ys) ∧ Below W.heap.size W w1 := by
  obtain ⟨ad, rfl, _⟩ := HR.2.2 hm
  obtain ⟨i0, hi, hzz⟩ := Option.map_eq_some_iff.1 info31
  simp only [Prod.mk.injEq] at hzz
  obtain ⟨hz0, hz1, hz2⟩ := hzz
  have hxl : xs.length = n := HC.1
  have hyl : ys.length = m := HR.1
  have key : ∃ v1 w1, (Builtin.append_ #[42, 42] ty #[.slice A n n, .slice (some ad) m c]).run Tryd.prog W = .ok v1 w1 ∧ w1.ownsRow W.heap.size 31 2 v1 (n + m) (flat xs ++ flat ys) ∧ W.grownBy w1 none := by
    cases A with
    | some b => exact run_append_arg_grows (P := Tryd.prog) W 42 ty 31 i0 _ 2 16 Tryd.underlying42 hi hz0 hz1 hz2 rfl (by decide) b n n (flat xs) (by rw [flat_len, hxl]) (C_cells HC) ad m c (flat ys) (by rw [flat_len, hyl]) (C_cells HR) (by omega) (by unfold maxLen; omega) hl
    | none =>
      obtain rfl : n = 0 := by
        rcases Nat.eq_zero_or_pos n with h0 | h0
        · exact h0
        · obtain ⟨ad', he, _⟩ := HC.2.2 h0
          cases he
      obtain rfl : xs = [] := List.eq_nil_of_length_eq_zero hxl
      obtain ⟨v', w', hrun, r1, r2, _⟩ := run_append_own (P := Tryd.prog) W W.heap.size 42 ty 31 i0 _ 2 16 Tryd.underlying42 hi hz0 hz1 hz2 rfl (by decide) (.slice none 0 0) 0 [] (World.ownsRow_nil W _ 31 2) ad m c (flat ys) (by rw [flat_len, hyl]) (C_cells HR) flat_one (by unfold maxLen; omega) hl (Nat.le_refl _)
      exact ⟨v', w', hrun, r1, r2⟩
  obtain ⟨v1, w1, hrun, hown, hg⟩ := key
  refine ⟨v1, w1, hrun, R_of_own ?_, ⟨hg.os, hg.tape, hg.output, hg.size, fun k hk => hg.block k hk (by simp)⟩⟩
  rw [← flat_append, ← hxl, ← hyl, ← List.length_append] at hown
  exact hown
section
variable {ops : Array Oper} {o : Oper} {a : Act} {Q : Exit → Act → World → Prop} {K : Act → World → Prop}
theorem step_rows {W : World} (base : Nat) {ok : Nat → Prop} (hw : Region.wanted o (yielded ops a.tmps) = true) (s x : Operand) (ho : o.op = .call { callee := .builtin .append, args := #[s, x], argTypes := #[42, 42] })
    (v : Value) (xs : List S31) (A : Option Addr) (m c : Nat) (ys : List S31) (hs : a.eval s = v) (hx : a.eval x = .slice A m c) (HO : Kd.R k31 31 W base ok v xs) (HR : Kd.C k31 W A m ys) (hbase : base ≤ W.heap.size) (hl : (xs.length + m) * 16 ≤ 140737488355328)
    (h : ∀ v1 w1, Kd.R k31 31 w1 base (fun _ => True) v1 (xs ++ ys) → Below base W w1 → K (a.put o.dst v1) w1) :
    if Region.wanted o (yielded ops a.tmps) = true then Oper.wp Tryd.prog o a W K Q else K (a.put o.dst undef) W := by
  obtain ⟨v1, w1, hr, h1, h2⟩ := run_rows o.type A m c ys HO HR hbase hl
  refine event_step hw ?_ (h v1 w1 h1 h2)
  unfold execOp
  simp only [ho, resolve, invoke, builtin, Sem.run_bind, Sem.run_pure, Result.andThen_ok, List.map_toArray, List.map_cons, List.map_nil, hs, hx, hr]
theorem step_full {W : World} (hw : Region.wanted o (yielded ops a.tmps) = true) (s x : Operand) (ho : o.op = .call { callee := .builtin .append, args := #[s, x], argTypes := #[42, 42] })
    (A : Option Addr) (n : Nat) (xs : List S31) (v : Value) (ys : List S31) {base : Nat} {ok : Nat → Prop} (hs : a.eval s = .slice A n n) (hx : a.eval x = v) (HC : Kd.C k31 W A n xs) (HR : Kd.R k31 31 W base ok v ys) (hm : 0 < ys.length) (hl : (n + ys.length) * 16 ≤ 140737488355328)
    (h : ∀ v1 w1, Kd.R k31 31 w1 W.heap.size (fun _ => True) v1 (xs ++ ys) → Below W.heap.size W w1 → K (a.put o.dst v1) w1) :
    if Region.wanted o (yielded ops a.tmps) = true then Oper.wp Tryd.prog o a W K Q else K (a.put o.dst undef) W := by
  obtain ⟨A', c, rfl, _, HR⟩ := Kd.R_reads HR
  obtain ⟨v1, w1, hr, h1, h2⟩ := run_full o.type A n xs HC A' ys.length c ys HR hm hl
  refine event_step hw ?_ (h v1 w1 h1 h2)
  unfold execOp
  simp only [ho, resolve, invoke, builtin, Sem.run_bind, Sem.run_pure, Result.andThen_ok, List.map_toArray, List.map_cons, List.map_nil, hs, hx, hr]
end
/-- A literal of one timer. -/
theorem R_lit1 (W : World) (d : S31) : Kd.R k31 31 (W.alloc (.cells #[.int .i64 d.f0, .int .u64 d.f1] 31)) W.heap.size (fun _ => True) (.slice (some ⟨W.heap.size, 0, none⟩) 1 1) [d] := by
  refine ⟨fun _ _ => trivial, OwnRow.lit W W.heap.size (inner := flat [d]) ?_ (Nat.le_refl _) (by simp)⟩
  exact reps_flat (fun x => k31_mkM _ _ _ x) [d]
theorem cut_cap (A : Option Addr) (n c : Nat) (k : Int) (h0 : 0 ≤ k) (h : k ≤ c) : ∀ W : World, (Instr.slice 42 (.slice A n c) none (some (.int .i64 k)) (some (.int .i64 k))).run Tryd.prog W = .ok (.slice A k.toNat k.toNat) W := by
  intro W
  have hel : Tryd.prog.elem 42 = 31 := by simp [Program.elem, Tryd.underlying42]
  have hu : Tryd.prog.underlying 42 = some (.slice (Tryd.prog.elem 42)) := by rw [hel]; exact Tryd.underlying42
  obtain ⟨i0, hi, hzz⟩ := Option.map_eq_some_iff.1 info31
  have ha : (A.map fun x => x.add 0) = A := by cases A <;> simp [Addr.add]
  rw [run_slice_hm W 42 A n c hu .i64 .i64 k k h0 (Int.le_refl _) h, hel]
  simp [sizeOf, typeInfo, hi, sliced, Result.andThen, ha]
end Go.Proofs.YtedolmjealgeoaaDoor.Cat

namespace Go.Proofs.YtedolmjealgeoaaDoor.Rg
open Go.RowKit Go.Proofs.YtedolmjealgeoaaDoor.PBase Go.Proofs.YtedolmjealgeoaaDoor.Cat Go.Proofs.YtedolmjealgeoaaDoorW.PrintWords Go.Proofs.YtedolmjealgeoaaDoorW.PrintLast Go.Proofs.YtedolmjealgeoaaDoorW.PrintMore
/-- What a call keeps: all but the blocks F, and what is new. -/
structure Fr (F : Nat → Prop) (W W' : World) : Prop where
  os : W'.os = W.os
  tape : W'.tape = W.tape
  out : W'.output = W.output
  size : W.heap.size ≤ W'.heap.size
  blk : ∀ k, k < W.heap.size → ¬ F k → W'.heap[k]? = W.heap[k]?
theorem Fr.refl (F : Nat → Prop) (W : World) : Fr F W W := ⟨rfl, rfl, rfl, Nat.le_refl _, fun _ _ _ => rfl⟩
theorem Fr.of_below {F : Nat → Prop} {W W' : World} (h : Below W.heap.size W W') : Fr F W W' := ⟨h.os, h.tape, h.output, h.size, fun k hk _ => h.block k hk⟩
theorem Fr.of_grown {F : Nat → Prop} {W W' : World} {row : Option Nat} (h : W.grownBy W' row) (hF : ∀ k, row = some k → F k) : Fr F W W' := ⟨h.os, h.tape, h.output, h.size, fun k hk hn => h.block k hk (fun e => hn (hF k e.symm))⟩
theorem Fr.then_ {F F2 : Nat → Prop} {W W1 W2 : World} (h : Fr F W W1) (k : Fr F2 W1 W2) (hF : ∀ b, F2 b → F b ∨ W.heap.size ≤ b) : Fr F W W2 :=
  ⟨k.os.trans h.os, k.tape.trans h.tape, k.out.trans h.out, Nat.le_trans h.size k.size, fun b hb hn => (k.blk b (Nat.lt_of_lt_of_le hb h.size) (fun h2 => by
    rcases hF b h2 with h3 | h3
    · exact hn h3
    · omega)).trans (h.blk b hb hn)⟩
theorem Fr.trans {F : Nat → Prop} {W W1 W2 : World} (h : Fr F W W1) (k : Fr F W1 W2) : Fr F W W2 := Fr.then_ h k (fun _ h => .inl h)
theorem Fr.weak {F F2 : Nat → Prop} {W W1 : World} (h : Fr F W W1) (hF : ∀ k, F k → F2 k) : Fr F2 W W1 := ⟨h.os, h.tape, h.out, h.size, fun k hk hn => h.blk k hk (fun e => hn (hF k e))⟩
theorem Fr.below {F : Nat → Prop} {W W' : World} {base : Nat} (h : Fr F W W') (hb : base ≤ W.heap.size) (hF : ∀ k, F k → base ≤ k) : Below base W W' := ⟨h.os, h.tape, h.out, h.size, fun k hk => h.blk k (Nat.lt_of_lt_of_le hk hb) (fun e => by have := hF k e; omega)⟩
theorem Fr.cell {F : Nat → Prop} {W W' : World} (h : Fr F W W') {a : Addr} {v : Value} (hc : W.cell? a = some v) (hn : ¬ F a.block) : W'.cell? a = some v := by
  rw [World.cell?_of_block (h.blk a.block (World.block_lt_of_cell? W a hc) hn)]
  exact hc
theorem Fr.set (W : World) (g i : Nat) (v : Value) : Fr (fun k => k = g) W (W.setCell ⟨g, i, none⟩ v) := ⟨rfl, rfl, rfl, by simp [World.setCell], fun k hk hn => Below.heap_setCell W ⟨g, i, none⟩ v k hn⟩
theorem Fr.setRow (W : World) (g : Nat) (c : Array Value) : Fr (fun k => k = g) W (W.setRow g c) := by
  refine ⟨rfl, rfl, rfl, by simp [World.setRow], fun k hk hn => ?_⟩
  unfold World.setRow
  simp only [Array.getElem?_modify]
  rw [if_neg (fun e => hn e.symm)]
theorem Fr.drew {F : Nat → Prop} (W : World) : Fr F W W.drew := Fr.of_below (below_drew1 (Below.refl _ _))
theorem Fr.alloc {F : Nat → Prop} (W : World) (o : Obj) : Fr F W (W.alloc o) := Fr.of_below (below_alloc (Below.refl _ _) o)
/-- copy at timers: two cells each. -/
theorem run_copy2 (w : World) (ty : TypeId) (g o dLen dCap : Nat) (a : Addr) (sLen sCap : Nat) (cur : Array Value) (t : TypeId) (cs : List Value)
    (hg : w.heap[g]? = some (.cells cur t (0, 0))) (hn : cs.length = Nat.min sLen dLen * 2)
    (hsrc : ∀ j v, cs[j]? = some v → w.cell? (a.add j) = some v) (hfit : o + cs.length ≤ cur.size) (h1 : ∀ v ∈ cs, v.oneCell' = true) :
    (Builtin.copy_ #[42, 42] ty #[.slice (some ⟨g, o, none⟩) dLen dCap, .slice (some a) sLen sCap]).run Tryd.prog w =
      .ok (goInt (Nat.min sLen dLen)) (w.setRow g (cur.toList.take o ++ cs ++ cur.toList.drop (o + cs.length)).toArray) := by
  have hl := run_loadCells_list (P := Tryd.prog) w a cs hsrc
  have hst := run_storeCells_at Tryd.prog g o t cs 0 cur w hg (by simpa using hfit) h1
  obtain ⟨i0, hi, hzz⟩ := Option.map_eq_some_iff.1 info31
  simp only [Prod.mk.injEq] at hzz
  obtain ⟨hz0, hz1, hz2⟩ := hzz
  simp [Builtin.copy_, run_underlying Tryd.underlying42, Builtin.lenOf, Builtin.firstCells, sizeOf, typeInfo, hi, hz1, ← hn, hl, hst]
end Go.Proofs.YtedolmjealgeoaaDoor.Rg

set_option linter.unusedVariables false
set_option linter.unusedSimpArgs false
namespace Go.Proofs.YtedolmjealgeoaaDoor.Rg
open Go.RowKit Go.Lib Go.Proofs.YtedolmjealgeoaaDoor.PBase Go.Proofs.YtedolmjealgeoaaDoor.Cat Go.Proofs.YtedolmjealgeoaaDoorW.PrintWords Go.Proofs.YtedolmjealgeoaaDoorW.PrintLast Go.Proofs.YtedolmjealgeoaaDoorW.PrintMore
set_option maxRecDepth 100000 in
theorem cut_lo (b o n c : Nat) (k : Int) (m : Nat) (hk : k = (m : Int)) (hm : m ≤ n) (hc : m < c) : ∀ W : World, (Instr.slice 42 (.slice (some ⟨b, o, none⟩) n c) (some (.int .i64 k)) none none).run Tryd.prog W = .ok (.slice (some ⟨b, o + m * 2, none⟩) (n - m) (c - m)) W := by
  intro W
  subst hk
  obtain ⟨i0, hi, hzz⟩ := Option.map_eq_some_iff.1 info31
  simp only [Prod.mk.injEq] at hzz
  have h := cut_from (P := Tryd.prog) 42 31 .i64 Tryd.underlying42 hi 2 hzz.2.1 (some ⟨b, o, none⟩) n c (m : Int) (by omega) (by omega) W
  rw [h, Int.toNat_natCast, if_neg (by omega)]
  congr 2
  simp only [Option.map_some, Addr.add]
  split
  · rename_i e
    rw [show m = 0 by omega]
    rfl
  · rfl
set_option maxRecDepth 100000 in
theorem cut_hi (A : Option Addr) (n c : Nat) (k : Int) (m : Nat) (hk : k = (m : Int)) (h : m ≤ c) : ∀ W : World, (Instr.slice 42 (.slice A n c) none (some (.int .i64 k)) none).run Tryd.prog W = .ok (.slice A m c) W := by
  intro W
  subst hk
  have hel : Tryd.prog.elem 42 = 31 := by simp [Program.elem, Tryd.underlying42]
  have hu : Tryd.prog.underlying 42 = some (.slice (Tryd.prog.elem 42)) := by rw [hel]; exact Tryd.underlying42
  obtain ⟨i0, hi, hzz⟩ := Option.map_eq_some_iff.1 info31
  have ha : (A.map fun x => x.add 0) = A := by cases A <;> simp [Addr.add]
  rw [run_slice_h W 42 A n c hu .i64 (m : Int) (by omega) (by omega), hel]
  simp [sizeOf, typeInfo, hi, sliced, Result.andThen, ha]
theorem row_cell {w : World} {g c : Nat} {cur : Array Value} {cs : List Value} {o : Nat} (hg : w.heap[g]? = some (.cells cur 31 (0, 0))) (hcur : cur.toList.take c = cs) {j : Nat} {v : Value} (h : cs[o + j]? = some v) : w.cell? ⟨g, o + j, none⟩ = some v := by
  rw [cell_of_row w g (o + j) cur 31 (0, 0) hg]
  subst hcur
  rw [List.getElem?_take] at h
  split at h
  · simpa using h
  · cases h
theorem flat_drop (xs : List S31) (i : Nat) : flat (xs.drop i) = (flat xs).drop (i * 2) := by
  induction i generalizing xs with
  | zero => simp
  | succ i ih =>
    cases xs with
    | nil => simp [flat]
    | cons x xs =>
      rw [List.drop_succ_cons, ih, flat_cons, show (i + 1) * 2 = (enc x).length + i * 2 by simp [enc]; omega, ← List.drop_drop, List.drop_left]
theorem flat_take (xs : List S31) (i : Nat) : flat (xs.take i) = (flat xs).take (i * 2) := by
  induction i generalizing xs with
  | zero => simp [flat]
  | succ i ih =>
    cases xs with
    | nil => simp [flat]
    | cons x xs =>
      rw [List.take_succ_cons, flat_cons, ih, flat_cons, show (i + 1) * 2 = (enc x).length + i * 2 by simp [enc]; omega, List.take_length_add_append]
set_option maxHeartbeats 4000000 in
set_option maxRecDepth 100000 in
/-- There is room: in place. -/
theorem insert_shift (g n c i x : Nat) (cur : Array Value) (xs : List S31) (d : S31) (w : World) (hi : i < n) (hroom : n + 1 ≤ c) (hc63 : c ≤ 9223372036854775807) (hxg : x ≠ g) (hg : w.heap[g]? = some (.cells cur 31 (0, 0))) (hcs : cur.size = c * 2) (hn : xs.length = n) (hcur : cur.toList.take (n * 2) = flat xs) (hx : w.heap[x]? = some (.cells #[.int .i64 d.f0, .int .u64 d.f1] 31 (0, 0))) :
    Calls Tryd.prog 60 #[.slice (some ⟨g, 0, none⟩) n c, .int .i64 i, .slice (some ⟨x, 0, none⟩) 1 1] w fun e w' =>
      e = .returned (.slice (some ⟨g, 0, none⟩) (n + 1) c) ∧ w' = w.drew.setRow g (flat (xs.take i ++ d :: xs.drop i) ++ cur.toList.drop ((n + 1) * 2)).toArray := by
  have hz2 : ¬ ((i : Int) = (n : Int)) := by omega
  obtain ⟨i0, hi0, hzz⟩ := Option.map_eq_some_iff.1 info31
  simp only [Prod.mk.injEq] at hzz
  have hgsh : w.shape? g = some (31, cur.size) := by simp [World.shape?, hg]
  have hxsh : w.shape? x = some (31, 2) := by simp [World.shape?, hx]
  have hov : ∀ lb cb, (callFunc 90 #[.slice (some ⟨x, 0, none⟩) 1 1, .slice (some ⟨g, (i + 1) * 2, none⟩) lb cb]).run Tryd.prog w = .ok (.value (.bool false)) w := fun lb cb => by
    rw [run_callFunc_extern Tryd.func90 (by kernel_rfl) (by kernel_rfl) (by kernel_rfl) (e := Extern.SlicesOverlaps.overlaps #[42, 42] #[4]) (by kernel_rfl),
      Lib.run_overlaps_apart w 42 4 31 Tryd.underlying42 2 (fun w => by simp [sizeOf, typeInfo, hi0, hzz.2.1]) ⟨x, 0, none⟩ ⟨g, (i + 1) * 2, none⟩ 1 1 lb cb hxg 31 31 2 cur.size hxsh hgsh (by omega) (by simp [World.frozen?, hx]) (by simp [World.frozen?, hx])]
    rfl
  have hdl : (flat (xs.drop i)).length = (n - i) * 2 := by rw [flat_len, List.length_drop, hn]
  obtain ⟨cur1, hcur1⟩ : ∃ cur1, cur1 = (cur.toList.take ((i + 1) * 2) ++ flat (xs.drop i) ++ cur.toList.drop ((i + 1) * 2 + (flat (xs.drop i)).length)).toArray := ⟨_, rfl⟩
  have hcp1 : ∀ ty dc sc, (Builtin.copy_ #[42, 42] ty #[.slice (some ⟨g, (i + 1) * 2, none⟩) (n - i) dc, .slice (some ⟨g, i * 2, none⟩) (n + 1 - i) sc]).run Tryd.prog w.drew = .ok (goInt (Nat.min (n + 1 - i) (n - i))) (w.drew.setRow g cur1) := fun ty dc sc => by
    rw [hcur1]
    exact run_copy2 w.drew ty g ((i + 1) * 2) (n - i) dc ⟨g, i * 2, none⟩ (n + 1 - i) sc cur 31 (flat (xs.drop i)) hg (by rw [hdl]; congr 1; simp only [Nat.min_def]; split <;> omega)
      (fun j v hj => by
        rw [Addr.add_lit]
        refine row_cell (w := w.drew) hg hcur ?_
        rw [flat_drop, List.getElem?_drop] at hj
        exact hj) (by rw [hdl]; omega) flat_one
  have hs1 : cur1.size = c * 2 := by
    rw [hcur1]
    simp only [List.size_toArray, List.length_append, List.length_take, List.length_drop, Array.length_toList, hdl]
    omega
  have hW1 : ∀ W : World, W.heap = (w.drew.setRow g cur1).heap → W.heap[g]? = some (.cells cur1 31 (0, 0)) := fun W hW => by
    rw [hW]
    exact setRow_heap w.drew g cur cur1 31 (0, 0) hg
  have hx1 : (w.drew.setRow g cur1).heap[x]? = some (.cells #[.int .i64 d.f0, .int .u64 d.f1] 31 (0, 0)) := ((Fr.setRow w.drew g cur1).blk x (blk_lt hx) (fun e => hxg e)).trans hx
  have hcp2 : ∀ (W : World), W.heap = (w.drew.setRow g cur1).heap → ∀ ty dc, (Builtin.copy_ #[42, 42] ty #[.slice (some ⟨g, i * 2, none⟩) (n + 1 - i) dc, .slice (some ⟨x, 0, none⟩) 1 1]).run Tryd.prog W = .ok (goInt (Nat.min 1 (n + 1 - i))) (W.setRow g (cur1.toList.take (i * 2) ++ flat [d] ++ cur1.toList.drop (i * 2 + (flat [d]).length)).toArray) := fun W hW ty dc =>
    run_copy2 W ty g (i * 2) (n + 1 - i) dc ⟨x, 0, none⟩ 1 1 cur1 31 (flat [d]) (hW1 W hW) (by rw [flat_len]; congr 1; simp only [Nat.min_def, List.length_singleton]; split <;> omega)
      (fun j v hj => by
        rw [Addr.add_lit, cell_of_row W x (0 + j) _ 31 (0, 0) (by rw [hW]; exact hx1)]
        simpa [flat, enc] using hj) (by rw [flat_len, hs1]; simp only [List.length_singleton]; omega) flat_one
  have hend : (cur1.toList.take (i * 2) ++ flat [d] ++ cur1.toList.drop (i * 2 + (flat [d]).length)) = flat (xs.take i ++ d :: xs.drop i) ++ cur.toList.drop ((n + 1) * 2) := by
    have hl0 : (cur.toList.take ((i + 1) * 2)).length = (i + 1) * 2 := by rw [List.length_take, Array.length_toList]; omega
    have hd2 : (flat [d]).length = 2 := rfl
    rw [hcur1, hd2, hdl]
    simp only [List.append_assoc]
    rw [List.take_append_of_le_length (by omega), List.take_take, Nat.min_eq_left (by omega), show i * 2 + 2 = (i + 1) * 2 by omega]
    rw [List.drop_append_of_le_length (by omega), List.drop_eq_nil_of_le (by omega), List.nil_append, flat_append, flat_cons, flat_take, show ((i + 1) * 2) + (n - i) * 2 = (n + 1) * 2 by omega, ← hcur, List.take_take, Nat.min_eq_left (by omega)]
    simp [flat]
  have q1 := cut_lo g 0 n c (i : Int) i rfl (by omega) (by omega)
  have q2 := cut_hi (some ⟨g, 0, none⟩) n c ((n : Int) + 1) (n + 1) (by omega) hroom
  have q3 := cut_lo g 0 (n + 1) c ((i : Int) + 1) (i + 1) (by omega) (by omega) (by omega)
  have q4 := cut_lo g 0 (n + 1) c (i : Int) i rfl (by omega) (by omega)
  rw [hend] at hcp2
  have hW1 := Aside0.mk hW1
  clear hend hcur1 hzz
  have mixed : Tryd.prog.follows Departure.mixedOrders = true := by kernel_rfl
  have hw1 : IntKind.i64.wrap ((i : Int) + 1) = (i : Int) + 1 := by rw [IntKind.wrap_i64]; omega
  have hb1 : (0 : Int) ≤ (i : Int) + 1 := by omega
  have hin : i ≤ n := by omega
  have htn : ((i : Int) + 1).toNat = i + 1 := by omega
  have hb2 : ¬ (c = i + 1) := by omega
  have hb3 : (i : Int) ≤ (n : Int) + 1 := by omega
  have hb4 : ¬ (c = i) := by omega
  go_enter Tryd.func60, Tryd.ntmps60
  go_wp2_with (simp only [hov])
  go_region_law_o (refine step_copy_runI rfl _ _ 42 42 rfl _ _ (by simp [Act.eval, Act.put]) (by simp [Act.eval, Act.put]) (hcp1 _ _ _) ?_)
  go_wp2_with (at_builtin; refine wpList_copy_runI _ rfl _ _ 42 42 rfl _ _ rfl rfl (hcp2 _ rfl _ _) ?_)
  go_ret
  exact ⟨rfl, by rw [setRow_setRow]⟩
set_option maxHeartbeats 4000000 in
set_option maxRecDepth 100000 in
/-- There is no room: a new row. -/
theorem insert_grow (g n i x : Nat) (cur : Array Value) (xs : List S31) (d : S31) (w : World) (hi : i < n) (hbig : n ≤ 1000000) (hxg : x ≠ g) (hg : w.heap[g]? = some (.cells cur 31 (0, 0))) (hn : xs.length = n) (hcur : cur.toList.take (n * 2) = flat xs) (hx : w.heap[x]? = some (.cells #[.int .i64 d.f0, .int .u64 d.f1] 31 (0, 0))) :
    Calls Tryd.prog 60 #[.slice (some ⟨g, 0, none⟩) n n, .int .i64 i, .slice (some ⟨x, 0, none⟩) 1 1] w fun e w' => ∃ c cells,
      e = .returned (.slice (some ⟨w.heap.size, 0, none⟩) (n + 1) c) ∧ w'.heap[w.heap.size]? = some (.cells cells 31 (0, 0)) ∧ n + 1 ≤ c ∧ c ≤ maxLen ∧ cells.size = c * 2 ∧ cells.toList.take ((n + 1) * 2) = flat (xs.take i ++ d :: xs.drop i) ∧ Below w.heap.size w w' := by
  have hz2 : ¬ ((i : Int) = (n : Int)) := by omega
  obtain ⟨i0, hi0, hz0, hzs, hzb⟩ := info_parts info31
  have hgw := blk_lt hg
  have hxw := blk_lt hx
  have hkk : (n : Int) + 1 - (i : Int) = ((n + 1 - i : Nat) : Int) := by omega
  have hik : i + (n + 1 - i) = n + 1 := by omega
  have hft : (flat (xs.take i)).length = i * 2 := by rw [flat_len, List.length_take]; omega
  have hold : (Builtin.firstCells i0.size i (.slice (some ⟨g, 0, none⟩) i n)).run Tryd.prog w.drew = .ok (flat (xs.take i)).toArray w.drew := by
    rw [hzs]
    exact run_firstCells_some w.drew 2 i ⟨g, 0, none⟩ i n (flat (xs.take i)) hft (fun j v hj => by
      rw [Addr.add_lit]
      refine row_cell (w := w.drew) hg hcur ?_
      rw [flat_take, List.getElem?_take] at hj
      rw [Nat.zero_add]
      split at hj
      · exact hj
      · cases hj)
  obtain ⟨G, hG⟩ : ∃ G, G = grownCap w (n + 1) n 31 := ⟨_, rfl⟩
  obtain ⟨ROW, hROW⟩ : ∃ ROW : Array Value, ROW = (flat (xs.take i)).toArray ++ Builtin.zeroCells (Value.agg #[.int .i64 0, .int .u64 0]).cells (n + 1 - i) ++ Builtin.zeroCells (Value.agg #[.int .i64 0, .int .u64 0]).cells (G - (n + 1)) := ⟨_, rfl⟩
  have hrz : ∀ ty, (Builtin.append_ #[42, 3] ty #[.slice (some ⟨g, 0, none⟩) i n, .int .i64 ((n : Int) + 1 - (i : Int))]).run Tryd.prog w = .ok (.slice (some ⟨w.heap.size, 0, none⟩) (n + 1) G) (w.drew.alloc (.cells ROW 31)) := fun ty => by
    have h := Lib.run_append_grow_zeros w 42 3 ty 31 i0 _ .i64 .i64 Tryd.underlying42 Tryd.underlying3 hi0 hz0 (some ⟨g, 0, none⟩) i n (flat (xs.take i)) hold (n + 1 - i) (by omega) (by omega) (by omega) (by omega) (by rw [hzb]; omega) (by rw [hzb, hik]; exact growslice_fits (by omega) (by omega))
    rw [hik, ← hG, ← hROW] at h
    rw [hkk]
    exact h
  have hGn : n + 1 ≤ G := by rw [hG]; exact grownCap_ge w _ _ _
  have hGm : G ≤ maxLen := by
    rw [hG]
    exact grownCap_le_maxLen w (n + 1) n 31 (by unfold maxLen; omega)
  have hG63 : G ≤ 9223372036854775807 := by unfold maxLen at hGm; omega
  have hRs : ROW.size = G * 2 := by
    rw [hROW]
    simp only [Array.size_append, List.size_toArray, hft]
    rw [show ∀ k, (Builtin.zeroCells (Value.agg #[.int .i64 0, .int .u64 0]).cells k).size = k * 2 from fun k => by simp [Builtin.zeroCells, Value.cells]]
    rw [show ∀ k, (Builtin.zeroCells (Value.agg #[.int .i64 0, .int .u64 0]).cells k).size = k * 2 from fun k => by simp [Builtin.zeroCells, Value.cells]]
    omega
  have hRt : ROW.toList.take (i * 2) = flat (xs.take i) := by
    rw [hROW]
    simp only [Array.toList_append, List.append_assoc]
    rw [List.take_append_of_le_length (by omega), List.take_of_length_le (by omega)]
  clear hROW hG
  obtain ⟨W1, hW1⟩ : ∃ W1, W1 = w.drew.alloc (.cells ROW 31) := ⟨_, rfl⟩
  have hN1 : W1.heap[w.heap.size]? = some (.cells ROW 31 (0, 0)) := by rw [hW1]; exact blk_new w.drew _
  have hX1 : W1.heap[x]? = some (.cells #[.int .i64 d.f0, .int .u64 d.f1] 31 (0, 0)) := by rw [hW1]; exact blk_below (g := x) hx ((below_drew1 (Below.refl _ _)).trans (below_alloc (Below.refl w.drew.heap.size w.drew) _))
  have hG1 : W1.heap[g]? = some (.cells cur 31 (0, 0)) := by rw [hW1]; exact blk_below (g := g) hg ((below_drew1 (Below.refl _ _)).trans (below_alloc (Below.refl w.drew.heap.size w.drew) _))
  obtain ⟨cA, hcA⟩ : ∃ cA, cA = (ROW.toList.take (i * 2) ++ flat [d] ++ ROW.toList.drop (i * 2 + (flat [d]).length)).toArray := ⟨_, rfl⟩
  have hcpA : ∀ (W : World), W.heap = W1.heap → ∀ ty dc, (Builtin.copy_ #[42, 42] ty #[.slice (some ⟨w.heap.size, i * 2, none⟩) (n + 1 - i) dc, .slice (some ⟨x, 0, none⟩) 1 1]).run Tryd.prog W = .ok (goInt (Nat.min 1 (n + 1 - i))) (W.setRow w.heap.size cA) := fun W hW ty dc => by
    rw [hcA]
    exact run_copy2 W ty w.heap.size (i * 2) (n + 1 - i) dc ⟨x, 0, none⟩ 1 1 ROW 31 (flat [d]) (by rw [hW]; exact hN1) (by rw [flat_len]; congr 1; simp only [Nat.min_def, List.length_singleton]; split <;> omega)
      (fun j v hj => by
        rw [Addr.add_lit, cell_of_row W x (0 + j) _ 31 (0, 0) (by rw [hW]; exact hX1)]
        simpa [flat, enc] using hj) (by rw [flat_len, hRs]; simp only [List.length_singleton]; omega) flat_one
  have hd2 : (flat [d]).length = 2 := rfl
  have hdl : (flat (xs.drop i)).length = (n - i) * 2 := by rw [flat_len, List.length_drop, hn]
  have hsA : cA.size = G * 2 := by
    rw [hcA]
    simp only [List.size_toArray, List.length_append, List.length_take, List.length_drop, Array.length_toList, hd2]
    omega
  obtain ⟨cB, hcB⟩ : ∃ cB, cB = (cA.toList.take ((i + 1) * 2) ++ flat (xs.drop i) ++ cA.toList.drop ((i + 1) * 2 + (flat (xs.drop i)).length)).toArray := ⟨_, rfl⟩
  have hNA : ∀ W : World, W.heap = (W1.setRow w.heap.size cA).heap → W.heap[w.heap.size]? = some (.cells cA 31 (0, 0)) := fun W hW => by
    rw [hW]
    exact setRow_heap W1 w.heap.size ROW cA 31 (0, 0) hN1
  have hGA : (W1.setRow w.heap.size cA).heap[g]? = some (.cells cur 31 (0, 0)) := ((Fr.setRow W1 w.heap.size cA).blk g (blk_lt hG1) (fun e => by omega)).trans hG1
  have hcpB : ∀ (W : World), W.heap = (W1.setRow w.heap.size cA).heap → ∀ ty dc sc, (Builtin.copy_ #[42, 42] ty #[.slice (some ⟨w.heap.size, (i + 1) * 2, none⟩) (n - i) dc, .slice (some ⟨g, i * 2, none⟩) (n - i) sc]).run Tryd.prog W = .ok (goInt (Nat.min (n - i) (n - i))) (W.setRow w.heap.size cB) := fun W hW ty dc sc => by
    rw [hcB]
    exact run_copy2 W ty w.heap.size ((i + 1) * 2) (n - i) dc ⟨g, i * 2, none⟩ (n - i) sc cA 31 (flat (xs.drop i)) (hNA W hW) (by rw [hdl]; congr 1; simp only [Nat.min_def]; split <;> omega)
      (fun j v hj => by
        rw [Addr.add_lit]
        refine row_cell (w := W) (by rw [hW]; exact hGA) hcur ?_
        rw [flat_drop, List.getElem?_drop] at hj
        exact hj) (by rw [hdl]; omega) flat_one
  have hsB : cB.size = G * 2 := by
    rw [hcB]
    simp only [List.size_toArray, List.length_append, List.length_take, List.length_drop, Array.length_toList, hdl]
    omega
  have hend : cB.toList.take ((n + 1) * 2) = flat (xs.take i ++ d :: xs.drop i) := by
    have hl0 : (cA.toList.take ((i + 1) * 2)).length = (i + 1) * 2 := by rw [List.length_take, Array.length_toList]; omega
    have e1 : cA.toList.take ((i + 1) * 2) = flat (xs.take i) ++ flat [d] := by
      rw [hcA, hRt, hd2]
      simp only [List.append_assoc]
      rw [← List.append_assoc, List.take_append_of_le_length (by rw [List.length_append, hft, hd2]; omega), List.take_of_length_le (by rw [List.length_append, hft, hd2]; omega)]
    rw [hcB]
    show (cA.toList.take ((i + 1) * 2) ++ flat (xs.drop i) ++ _).take _ = _
    rw [List.take_append_of_le_length (by rw [List.length_append, hl0, hdl]; omega), List.take_of_length_le (by rw [List.length_append, hl0, hdl]; omega), e1, flat_append, flat_cons]
    simp [flat]
  have hBl : ∀ W : World, W.heap = W1.heap → W.os = W1.os → W.tape = W1.tape → W.output = W1.output → Below w.heap.size w W := fun W h1 h2 h3 h4 => by
    have hb : Below w.heap.size w W1 := by rw [hW1]; exact below_alloc (below_drew1 (Below.refl _ _)) _
    exact ⟨h2.trans hb.os, h3.trans hb.tape, h4.trans hb.output, by rw [h1]; exact hb.size, fun k hk => by rw [h1]; exact hb.block k hk⟩
  clear hcB hcA hRt hold hz0 hzs hzb hi0
  have hE1 : ((w.alloc (.cells ROW 31)).drew).heap = W1.heap := by rw [hW1]; rfl
  have hE2 : (((w.alloc (.cells ROW 31)).drew.setRow w.heap.size cA).drew).heap = (W1.setRow w.heap.size cA).heap := by rw [hW1]; rfl
  have hE3 : (w.alloc (.cells ROW 31)).drew.os = W1.os ∧ (w.alloc (.cells ROW 31)).drew.tape = W1.tape ∧ (w.alloc (.cells ROW 31)).drew.output = W1.output := by rw [hW1]; exact ⟨rfl, rfl, rfl⟩
  have hE3 := Aside0.mk hE3
  clear hW1
  have mixed : Tryd.prog.follows Departure.mixedOrders = true := by kernel_rfl
  have hw1 : IntKind.i64.wrap ((i : Int) + 1) = (i : Int) + 1 := by rw [IntKind.wrap_i64]; omega
  have hb1 : (0 : Int) ≤ (i : Int) + 1 := by omega
  have hin : i ≤ n := by omega
  have htn : ((i : Int) + 1).toNat = i + 1 := by omega
  have hb2 : ¬ (G = i + 1) := by omega
  have hb3 : (i : Int) ≤ (n : Int) + 1 := by omega
  have hb4 : ¬ (G = i) := by omega
  have hb5 : ¬ (n = i) := by omega
  have hGi : ¬ (G = i) := by omega
  have HE := Aside0.mk (And.intro hsB (And.intro hend (And.intro hGn hGm)))
  have HN := Aside0.mk hNA
  have HB := Aside0.mk hBl
  clear hsB hend hGn hGm hNA hBl hkk hik
  go_enter Tryd.func60, Tryd.ntmps60
  go_wp2_with (first
    | (at_builtin; refine Lib.wpList_append_run _ rfl _ _ _ _ rfl _ _ rfl rfl _ _ (hrz _) ?_)
    | (at_builtin; refine wpList_copy_runI _ rfl _ _ 42 42 rfl _ _ rfl rfl (hcpA _ hE1 _ _) ?_))
  go_region_law_o (refine step_copy_runI rfl _ _ 42 42 rfl (.slice (some ⟨w.heap.size, (i + 1) * 2, none⟩) (n - i) (G - (i + 1))) (.slice (some ⟨g, i * 2, none⟩) (n - i) (n - i)) (by simp [Act.eval, Act.put]) (by simp [Act.eval, Act.put]) (hcpB _ hE2 3 (G - (i + 1)) (n - i)) ?_)
  go_wp2
  go_ret
  obtain ⟨e1, e2, e3, e4⟩ := HE.out
  refine ⟨G, cB, rfl, ?_, e3, e4, e1, e2, ?_⟩
  · exact setRow_heap _ w.heap.size cA cB 31 (0, 0) (HN.out _ hE2)
  · have h1 := HB.out (w.alloc (Obj.cells ROW 31)).drew hE1 hE3.out.1 hE3.out.2.1 hE3.out.2.2
    have h2 := (Fr.of_below (F := fun k => k = w.heap.size) h1).then_ (Fr.setRow (w.alloc (Obj.cells ROW 31)).drew w.heap.size cA) (fun _ h => .inl h)
    have h3 := (h2.then_ (Fr.drew _) (fun _ h => .inl h)).then_ (Fr.setRow _ w.heap.size cB) (fun _ h => .inl h)
    exact h3.below (Nat.le_refl _) (fun k h => Nat.le_of_eq h.symm)
/-- Where a row lies behind a call: in the elder block, or in a new one. -/
def At (W : World) (v v' : Value) : Prop := v'.ownBlock = v.ownBlock ∨ ∃ b, v'.ownBlock = some b ∧ W.heap.size ≤ b
theorem app_run {W : World} {base : Nat} {ok : Nat → Prop} {v : Value} {xs : List S31} (h : Kd.R k31 31 W base ok v xs) (d : S31) (ty : TypeId) (hl : xs.length ≤ 1000000) (ad : Addr) (c : Nat) (hx : Kd.C k31 W (some ad) 1 [d]) (hb : base ≤ W.heap.size) :
    ∃ v1 w1, (Builtin.append_ #[42, 42] ty #[v, .slice (some ad) 1 c]).run Tryd.prog W = .ok v1 w1 ∧ Kd.R k31 31 w1 base (fun _ => True) v1 (xs ++ [d]) ∧ Fr (fun k => v.ownBlock = some k) W w1 ∧ At W v v1 := by
  obtain ⟨i0, hi, hzz⟩ := Option.map_eq_some_iff.1 info31
  simp only [Prod.mk.injEq] at hzz
  obtain ⟨hz0, hz1, hz2⟩ := hzz
  obtain ⟨v1, w1, hrun, h2, hg, _, hat⟩ := run_append_own_at (P := Tryd.prog) W base 42 ty 31 i0 _ 2 16 Tryd.underlying42 hi hz0 hz1 hz2 rfl (by decide) v xs.length (flat xs) (own_of_R h) ad 1 c (flat [d]) (by rw [flat_len]; rfl) (C_cells hx) flat_one (by simp only [maxLen]; omega) (by omega) hb
  rw [← flat_append] at h2
  refine ⟨v1, w1, hrun, R_of_own (by rw [List.length_append]; exact h2), Fr.of_grown hg (fun k e => e), ?_⟩
  rcases hat with hat | hat
  · exact .inl hat
  · exact .inr ⟨_, hat, Nat.le_refl _⟩
set_option maxHeartbeats 4000000 in
set_option maxRecDepth 100000 in
theorem insert_end {W : World} {base : Nat} {ok : Nat → Prop} {v : Value} {xs : List S31} (h : Kd.R k31 31 W base ok v xs) (d : S31) (hl : xs.length ≤ 1000000) (x : Nat) (hx : W.heap[x]? = some (.cells #[.int .i64 d.f0, .int .u64 d.f1] 31 (0, 0))) (hb : base ≤ W.heap.size) :
    Calls Tryd.prog 60 #[v, .int .i64 xs.length, .slice (some ⟨x, 0, none⟩) 1 1] W fun e w' => ∃ v1, e = .returned v1 ∧ Kd.R k31 31 w' base (fun _ => True) v1 (xs ++ [d]) ∧ Fr (fun k => v.ownBlock = some k) W w' ∧ At W v v1 := by
  have hC : Kd.C k31 W (some ⟨x, 0, none⟩) 1 [d] := C_of_cells rfl (by omega) fun j u hu => by
    rw [Addr.add_lit, cell_of_row W x (0 + j) _ 31 (0, 0) hx]
    simpa [flat, enc] using hu
  obtain ⟨v1, w1, hr, h1, h2, h3⟩ := app_run h d 42 hl ⟨x, 0, none⟩ 1 hC hb
  have HH := Aside0.mk (And.intro h1 (And.intro h2 h3))
  clear h1 h2 h3 hC
  obtain ⟨A, c, rfl, hc, _⟩ := Kd.R_reads h
  obtain ⟨A1, c1, rfl⟩ := Kd.R_slice HH.out.1
  have hl1 : (xs ++ [d]).length = xs.length + 1 := by simp
  rw [hl1] at hr HH
  clear hl1
  obtain ⟨i0, hi0, hzz⟩ := Option.map_eq_some_iff.1 info31
  simp only [Prod.mk.injEq] at hzz
  have q1 := cut_from (P := Tryd.prog) 42 31 .i64 Tryd.underlying42 hi0 2 hzz.2.1 A xs.length c (xs.length : Int) (by omega) (by omega)
  clear hzz
  by_cases hcc : c = xs.length
  · subst hcc
    go_enter Tryd.func60, Tryd.ntmps60
    go_wp2_with (at_builtin; refine Lib.wpList_append_run _ rfl _ _ _ _ rfl _ _ rfl rfl _ _ hr ?_)
    go_ret
    exact ⟨_, rfl, HH.out⟩
  · go_enter Tryd.func60, Tryd.ntmps60
    go_wp2_with (at_builtin; refine Lib.wpList_append_run _ rfl _ _ _ _ rfl _ _ rfl rfl _ _ hr ?_)
    go_ret
    exact ⟨_, rfl, HH.out⟩
/-- slices.Insert. -/
theorem insert_calls {W : World} {base : Nat} {ok : Nat → Prop} {v : Value} {xs : List S31} (h : Kd.R k31 31 W base ok v xs) (d : S31) (i : Nat) (hi : i ≤ xs.length) (hl : xs.length ≤ 1000000) (x : Nat) (hx : W.heap[x]? = some (.cells #[.int .i64 d.f0, .int .u64 d.f1] 31 (0, 0))) (hxv : v.ownBlock ≠ some x) (hb : base ≤ W.heap.size) :
    Calls Tryd.prog 60 #[v, .int .i64 i, .slice (some ⟨x, 0, none⟩) 1 1] W fun e w' => ∃ v1, e = .returned v1 ∧ Kd.R k31 31 w' base (fun _ => True) v1 (xs.take i ++ d :: xs.drop i) ∧ Fr (fun k => v.ownBlock = some k) W w' ∧ At W v v1 := by
  rcases Nat.lt_or_ge i xs.length with hlt | hge
  · have hown := own_of_R h
    have hlen := hown.1
    rcases hown.2 with ⟨rfl, hn⟩ | ⟨g, cap, cur, rfl, hbg, hg, hnc, hcm, hcs, hcur⟩
    · omega
    · have hxg : x ≠ g := fun e => hxv (by rw [e]; rfl)
      have hc63 : cap ≤ 9223372036854775807 := by unfold maxLen at hcm; omega
      have hll : (xs.take i ++ d :: xs.drop i).length = xs.length + 1 := by simp only [List.length_append, List.length_take, List.length_cons, List.length_drop]; omega
      rcases Nat.lt_or_ge xs.length cap with hr | hr
      · refine (insert_shift g xs.length cap i x cur xs d W hlt hr hc63 hxg hg hcs rfl hcur hx).mono ?_
        rintro e w' ⟨rfl, rfl⟩
        refine ⟨_, rfl, ?_, (Fr.drew W).then_ (Fr.setRow _ g _) (fun b hb => .inl (by rw [hb]; rfl)), .inl rfl⟩
        rw [← hll]
        refine R_of_own ⟨flat_len _, .inr ⟨g, cap, _, rfl, hbg, setRow_heap W.drew g cur _ 31 (0, 0) hg, by omega, hcm, ?_, ?_⟩⟩
        · simp only [List.size_toArray, List.length_append, flat_len, hll, List.length_drop, Array.length_toList]
          omega
        · show (flat _ ++ _).take _ = _
          rw [List.take_append_of_le_length (by rw [flat_len]; exact Nat.le_refl _), List.take_of_length_le (by rw [flat_len]; exact Nat.le_refl _)]
      · obtain rfl : cap = xs.length := by omega
        refine (insert_grow g xs.length i x cur xs d W hlt hl hxg hg rfl hcur hx).mono ?_
        rintro e w' ⟨c, cells, rfl, h1, h2, h3, h4, h5, h6⟩
        refine ⟨_, rfl, ?_, Fr.of_below h6, .inr ⟨_, rfl, Nat.le_refl _⟩⟩
        rw [← hll] at h2 h5 ⊢
        exact R_of_own ⟨flat_len _, .inr ⟨W.heap.size, c, cells, rfl, hb, h1, h2, h3, h4, h5⟩⟩
  · obtain rfl : i = xs.length := by omega
    rw [List.take_of_length_le (Nat.le_refl _), List.drop_eq_nil_of_le (Nat.le_refl _)]
    exact insert_end h d hl x hx hb
end Go.Proofs.YtedolmjealgeoaaDoor.Rg

namespace Go.Proofs.YtedolmjealgeoaaDoor.Rg
open Go.Lib Go.RowKit Go.Maps Go.Proofs.YtedolmjealgeoaaDoor.PBase Go.Proofs.YtedolmjealgeoaaDoor.Cat Go.Proofs.YtedolmjealgeoaaDoorW.PrintWords Go.Proofs.YtedolmjealgeoaaDoorW.PrintLast Go.Proofs.YtedolmjealgeoaaDoorW.PrintMore
set_option linter.unusedVariables false
theorem clone_walk (A0 : Option Addr) (c0 : Nat) (l : List S31) (w : World) (hr0 : Kd.C k31 w A0 l.length l) (hn : l.length ≤ 1000000) :
    Calls Tryd.prog 67 #[.slice A0 l.length c0] w fun e w' => ∃ v0_, e = .returned v0_ ∧ Kd.R k31 31 w' w.heap.size (fun _ => True) v0_ l ∧ Below w.heap.size w w' := by
  cases A0 with
  | none =>
    have h0 : l.length = 0 := by
      rcases Nat.eq_zero_or_pos l.length with h | h
      · exact h
      · obtain ⟨ad, he, _⟩ := hr0.2.2 h
        cases he
    obtain rfl := List.eq_nil_of_length_eq_zero h0
    have heq := fun W => Lib.run_eql_slice_nil (P := Tryd.prog) W 42 31 none 0 c0 0 0 Tryd.underlying42
    go_enter Tryd.func67, Tryd.ntmps67
    go_wp2
    go_ret
    exact ⟨_, rfl, Kd.R_nil _ _ _ _ _, Below.refl _ _⟩
  | some ad =>
    have HR0 := Aside0.mk hr0
    clear hr0
    have heq := fun W => Lib.run_eql_slice_nil (P := Tryd.prog) W 42 31 (some ad) l.length c0 0 0 Tryd.underlying42
    have HB := below_alloc (Below.refl w.heap.size w) (.cells #[] 31)
    have HL : Kd.R k31 31 (w.alloc (.cells #[] 31)) w.heap.size (fun _ => True) (.slice (some ⟨w.heap.size, 0, none⟩) 0 0) [] := ⟨fun _ _ => trivial, OwnRow.lit w w.heap.size (inner := []) (Reps.none _ _) (Nat.le_refl _) (by simp)⟩
    obtain ⟨v1, w1, hrun, h1, h2⟩ := run_rows 42 (some ad) l.length c0 l HL (Kd.C_below HR0.out HB) HB.size (by simp; omega)
    go_enter Tryd.func67, Tryd.ntmps67
    go_wp2_with (at_builtin; refine Lib.wpList_append_run _ (by rfl) (.tmp 5) (.tmp 6) 42 42 (by rfl) (.slice (some ⟨w.heap.size, 0, none⟩) 0 0) (.slice (some ad) l.length c0) (by rfl) (by rfl) v1 w1 hrun ?_)
    go_ret
    exact ⟨_, rfl, h1, HB.trans h2⟩
end Go.Proofs.YtedolmjealgeoaaDoor.Rg
