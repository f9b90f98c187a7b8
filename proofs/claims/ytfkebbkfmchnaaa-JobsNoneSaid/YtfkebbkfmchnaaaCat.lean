/- Rows of jobs, their cells laid flat: what reads, what is the call's own; an append onto a slice that is cut to its length makes a new row. Conditions: those of each. -/
import Derived.Test.YtfkebbkfmchnaaaPBasex3
import Derived.Test.YtfkebbkfmchnaaaHeap
import Derived.Maps.AppendAt
import Derived.Deep.RegionHeld3
import Derived.Lib.AppendZeros
namespace Go.Proofs.Ytfkebbkfmchnaaa.Cat
open Go.RowKit Go.Proofs.Ytfkebbkfmchnaaa.PBase Go.Proofs.YtfkebbkfmchnaaaW.PrintWords Go.Proofs.YtfkebbkfmchnaaaW.PrintLast Go.Proofs.YtfkebbkfmchnaaaW.PrintMore
theorem info77 : (Try.prog.info? 77).map (fun i => (i.zero, i.size, i.bytes)) = some (some (.agg #[(.int .i64 0), (.int .i64 0), (.int .i64 0)]), 3, 24) := by kernel_rfl
/-- A job's three cells. -/
def enc (x : S77) : List Value := [.int .i64 x.f0, .int .i64 x.f1, .int .i64 x.f2]
def flat (xs : List S77) : List Value := xs.flatMap enc
theorem flat_cons (x : S77) (xs : List S77) : flat (x :: xs) = enc x ++ flat xs := rfl
theorem flat_append (xs ys : List S77) : flat (xs ++ ys) = flat xs ++ flat ys := by simp [flat]
theorem flat_len (xs : List S77) : (flat xs).length = xs.length * 3 := by
  induction xs with
  | nil => rfl
  | cons x xs ih => rw [flat_cons, List.length_append, ih]; simp [enc]; omega
theorem flat_one {xs : List S77} : ∀ u ∈ flat xs, u.oneCell' = true := by
  intro u hu
  obtain ⟨x, _, hu⟩ := List.mem_flatMap.1 hu
  simp only [enc, List.mem_cons, List.not_mem_nil, or_false] at hu
  rcases hu with rfl | rfl | rfl <;> rfl
theorem reps_flat {R : S77 → List Value → Prop} (hR : ∀ x, R x (enc x)) (xs : List S77) : Reps R 3 xs (flat xs) := by
  refine ⟨flat_len xs, fun j p hj => ?_⟩
  induction xs generalizing j with
  | nil => simp at hj
  | cons x xs ih =>
    rw [flat_cons]
    cases j with
    | zero =>
      have : x = p := by simpa using hj
      subst this
      exact hR x
    | succ j =>
      have e : (enc x ++ flat xs).drop ((j + 1) * 3) = (flat xs).drop (j * 3) := by
        rw [show (j + 1) * 3 = (enc x).length + j * 3 by simp [enc]; omega, ← List.drop_drop, List.drop_left]
      rw [e]
      exact ih j (by simpa using hj)
theorem flat_of_reps {R : S77 → List Value → Prop} (hR : ∀ x cs, R x cs → cs = enc x) : ∀ (xs : List S77) (cs : List Value), Reps R 3 xs cs → cs = flat xs := by
  intro xs
  induction xs with
  | nil => intro cs h; exact List.eq_nil_of_length_eq_zero (by simpa using h.1)
  | cons x xs ih =>
    intro cs h
    have h0 := hR _ _ (h.2 0 x rfl)
    rw [Nat.zero_mul, List.drop_zero] at h0
    have h1 := ih (cs.drop 3) ⟨by rw [List.length_drop, h.1, List.length_cons]; omega, fun j p hj => by
      have := h.2 (j + 1) p (by simpa using hj)
      rwa [List.drop_drop, show 3 + j * 3 = (j + 1) * 3 by omega]⟩
    rw [flat_cons, ← h0, ← h1, List.take_append_drop]
section
variable {w : World} {base n c : Nat} {ok : Nat → Prop} {v : Value} {xs : List S77}
theorem R_of_own (h : w.ownsRow base 77 3 v xs.length (flat xs)) : Kd.R k77 77 w base (fun _ => True) v xs :=
  ⟨fun _ _ => trivial, flat xs, h, reps_flat (fun x => k77_mkM _ _ _ x) xs⟩
theorem own_of_R (h : Kd.R k77 77 w base ok v xs) : w.ownsRow base 77 3 v xs.length (flat xs) := by
  obtain ⟨_, inner, ho, hr⟩ := h
  rw [← flat_of_reps (fun x cs hc => k77_openM hc) xs inner hr]
  exact ho
theorem C_cells {ad : Addr} (h : Kd.C k77 w (some ad) n xs) : ∀ j u, (flat xs)[j]? = some u → w.cell? (ad.add j) = some u := by
  obtain ⟨inner, hr, hc⟩ := ReadsRow.inner_ h
  rw [← flat_of_reps (fun x cs hc => k77_open hc) xs inner hr]
  exact hc
theorem C_of_cells {ad : Addr} (hn : xs.length = n) (hm : n ≤ 9223372036854775807) (h : ∀ j u, (flat xs)[j]? = some u → w.cell? (ad.add j) = some u) : Kd.C k77 w (some ad) n xs := by
  refine ⟨hn, hm, fun _ => ⟨ad, rfl, fun j p hj => ⟨enc p, rfl, k77_mk _ _, fun i u hu => h (j * 3 + i) u ?_⟩⟩⟩
  have h2 := (reps_flat (R := fun x cs => cs = enc x) (fun x => rfl) xs).2 j p hj
  have hi : i < 3 := by have := (List.getElem?_eq_some_iff.1 hu).1; simpa [enc] using this
  rw [← h2, List.getElem?_take, if_pos hi, List.getElem?_drop] at hu
  exact hu
theorem C_one (d : S77) : Kd.C k77 (w.alloc (.cells #[.int .i64 d.f0, .int .i64 d.f1, .int .i64 d.f2] 77)) (some ⟨w.heap.size, 0, none⟩) 1 [d] := by
  refine C_of_cells rfl (by omega) fun j u hu => ?_
  match j with
  | 0 => simpa [flat, enc, Addr.add] using hu
  | 1 => simpa [flat, enc, Addr.add] using hu
  | 2 => simpa [flat, enc, Addr.add] using hu
  | j + 3 => simp [flat, enc] at hu
end
/-- append(v, ys...), v the call's own, as a run. -/
theorem run_rows {W : World} {base : Nat} {ok : Nat → Prop} {v : Value} {xs : List S77} (ty : TypeId) (A : Option Addr) (m c : Nat) (ys : List S77) (HO : Kd.R k77 77 W base ok v xs) (HR : Kd.C k77 W A m ys) (hbase : base ≤ W.heap.size) (hl : (xs.length + m) * 24 ≤ 140737488355328) :
    ∃ v1 w1, (Builtin.append_ #[63, 63] ty #[v, .slice A m c]).run Try.prog W = .ok v1 w1 ∧ Kd.R k77 77 w1 base (fun _ => True) v1 (xs ++ ys) ∧ Below base W w1 := by
  obtain ⟨i0, hi, hzz⟩ := Option.map_eq_some_iff.1 info77
  simp only [Prod.mk.injEq] at hzz
  obtain ⟨hz0, hz1, hz2⟩ := hzz
  have hyl : ys.length = m := HR.1
  have hown := own_of_R HO
  rcases A with _ | ad
  · have h0 : m = 0 := by
      rcases Nat.eq_zero_or_pos m with h0 | h0
      · exact h0
      · obtain ⟨ad, h, _⟩ := HR.2.2 h0
        cases h
    subst h0
    obtain rfl : ys = [] := List.eq_nil_of_length_eq_zero hyl
    refine ⟨v, W, ?_, by rw [List.append_nil]; exact Kd.R_mono HO (fun _ _ => trivial), Below.refl _ _⟩
    rcases hown.2 with ⟨rfl, hn⟩ | ⟨g, cap, cur, rfl, _, _, hnc, _⟩
    · simp [Builtin.append_, run_underlying Try.underlying63, sizeOf, typeInfo, hi, Builtin.lenOf, Builtin.firstCells]
    · simp [Builtin.append_, run_underlying Try.underlying63, sizeOf, typeInfo, hi, Builtin.lenOf, Builtin.firstCells, hnc, storeCells]
  · obtain ⟨v1, w1, hrun, h2, hg, _, _⟩ := run_append_own_at (P := Try.prog) W base 63 ty 77 i0 _ 3 24 Try.underlying63 hi hz0 hz1 hz2 rfl (by decide) v xs.length (flat xs) hown ad m c (flat ys) (by rw [flat_len, hyl]) (C_cells HR) flat_one (by simp only [maxLen]; omega) hl hbase
    refine ⟨v1, w1, hrun, R_of_own ?_, ⟨hg.os, hg.tape, hg.output, hg.size, fun k hk => hg.block k (Nat.lt_of_lt_of_le hk hbase) (fun he => by have := own_base hown k he.symm; omega)⟩⟩
    rw [← flat_append, ← hyl, ← List.length_append] at h2
    exact h2
/-- append(x[:k:k], ys...), ys not empty, as a run. -/
theorem run_full {W : World} (ty : TypeId) (A : Option Addr) (n : Nat) (xs : List S77) (HC : Kd.C k77 W A n xs) (A' : Option Addr) (m c : Nat) (ys : List S77) (HR : Kd.C k77 W A' m ys) (hm : 0 < m) (hl : (n + m) * 24 ≤ 140737488355328) :
    ∃ v1 w1, (Builtin.append_ #[63, 63] ty #[.slice A n n, .slice A' m c]).run Try.prog W = .ok v1 w1 ∧ Kd.R k77 77 w1 W.heap.size (fun _ => True) v1 (xs ++ ys) ∧ Below W.heap.size W w1 := by
  obtain ⟨ad, rfl, _⟩ := HR.2.2 hm
  obtain ⟨i0, hi, hzz⟩ := Option.map_eq_some_iff.1 info77
  simp only [Prod.mk.injEq] at hzz
  obtain ⟨hz0, hz1, hz2⟩ := hzz
  have hxl : xs.length = n := HC.1
  have hyl : ys.length = m := HR.1
  have key : ∃ v1 w1, (Builtin.append_ #[63, 63] ty #[.slice A n n, .slice (some ad) m c]).run Try.prog W = .ok v1 w1 ∧ w1.ownsRow W.heap.size 77 3 v1 (n + m) (flat xs ++ flat ys) ∧ W.grownBy w1 none := by
    cases A with
    | some b => exact run_append_arg_grows (P := Try.prog) W 63 ty 77 i0 _ 3 24 Try.underlying63 hi hz0 hz1 hz2 rfl (by decide) b n n (flat xs) (by rw [flat_len, hxl]) (C_cells HC) ad m c (flat ys) (by rw [flat_len, hyl]) (C_cells HR) (by omega) (by unfold maxLen; omega) hl
    | none =>
      obtain rfl : n = 0 := by
        rcases Nat.eq_zero_or_pos n with h0 | h0
        · exact h0
        · obtain ⟨ad', he, _⟩ := HC.2.2 h0
          cases he
      obtain rfl : xs = [] := List.eq_nil_of_length_eq_zero hxl
      obtain ⟨v', w', hrun, r1, r2, _⟩ := run_append_own (P := Try.prog) W W.heap.size 63 ty 77 i0 _ 3 24 Try.underlying63 hi hz0 hz1 hz2 rfl (by decide) (.slice none 0 0) 0 [] (World.ownsRow_nil W _ 77 3) ad m c (flat ys) (by rw [flat_len, hyl]) (C_cells HR) flat_one (by unfold maxLen; omega) hl (Nat.le_refl _)
      exact ⟨v', w', hrun, r1, r2⟩
  obtain ⟨v1, w1, hrun, hown, hg⟩ := key
  refine ⟨v1, w1, hrun, R_of_own ?_, ⟨hg.os, hg.tape, hg.output, hg.size, fun k hk => hg.block k hk (by simp)⟩⟩
  rw [← flat_append, ← hxl, ← hyl, ← List.length_append] at hown
  exact hown
section
variable {ops : Array Oper} {o : Oper} {a : Act} {Q : Exit → Act → World → Prop} {K : Act → World → Prop}
theorem step_rows {W : World} (base : Nat) {ok : Nat → Prop} (hw : Region.wanted o (yielded ops a.tmps) = true) (s x : Operand) (ho : o.op = .call { callee := .builtin .append, args := #[s, x], argTypes := #[63, 63] })
    (v : Value) (xs : List S77) (A : Option Addr) (m c : Nat) (ys : List S77) (hs : a.eval s = v) (hx : a.eval x = .slice A m c) (HO : Kd.R k77 77 W base ok v xs) (HR : Kd.C k77 W A m ys) (hbase : base ≤ W.heap.size) (hl : (xs.length + m) * 24 ≤ 140737488355328)
    (h : ∀ v1 w1, Kd.R k77 77 w1 base (fun _ => True) v1 (xs ++ ys) → Below base W w1 → K (a.put o.dst v1) w1) :
    if Region.wanted o (yielded ops a.tmps) = true then Oper.wp Try.prog o a W K Q else K (a.put o.dst undef) W := by
  obtain ⟨v1, w1, hr, h1, h2⟩ := run_rows o.type A m c ys HO HR hbase hl
  refine event_step hw ?_ (h v1 w1 h1 h2)
  unfold execOp
  simp only [ho, resolve, invoke, builtin, Sem.run_bind, Sem.run_pure, Result.andThen_ok, List.map_toArray, List.map_cons, List.map_nil, hs, hx, hr]
theorem step_full {W : World} (hw : Region.wanted o (yielded ops a.tmps) = true) (s x : Operand) (ho : o.op = .call { callee := .builtin .append, args := #[s, x], argTypes := #[63, 63] })
    (A : Option Addr) (n : Nat) (xs : List S77) (v : Value) (ys : List S77) {base : Nat} {ok : Nat → Prop} (hs : a.eval s = .slice A n n) (hx : a.eval x = v) (HC : Kd.C k77 W A n xs) (HR : Kd.R k77 77 W base ok v ys) (hm : 0 < ys.length) (hl : (n + ys.length) * 24 ≤ 140737488355328)
    (h : ∀ v1 w1, Kd.R k77 77 w1 W.heap.size (fun _ => True) v1 (xs ++ ys) → Below W.heap.size W w1 → K (a.put o.dst v1) w1) :
    if Region.wanted o (yielded ops a.tmps) = true then Oper.wp Try.prog o a W K Q else K (a.put o.dst undef) W := by
  obtain ⟨A', c, rfl, _, HR⟩ := Kd.R_reads HR
  obtain ⟨v1, w1, hr, h1, h2⟩ := run_full o.type A n xs HC A' ys.length c ys HR hm hl
  refine event_step hw ?_ (h v1 w1 h1 h2)
  unfold execOp
  simp only [ho, resolve, invoke, builtin, Sem.run_bind, Sem.run_pure, Result.andThen_ok, List.map_toArray, List.map_cons, List.map_nil, hs, hx, hr]
end
/-- A literal of one job. -/
theorem R_lit1 (W : World) (d : S77) : Kd.R k77 77 (W.alloc (.cells #[.int .i64 d.f0, .int .i64 d.f1, .int .i64 d.f2] 77)) W.heap.size (fun _ => True) (.slice (some ⟨W.heap.size, 0, none⟩) 1 1) [d] := by
  refine ⟨fun _ _ => trivial, OwnRow.lit W W.heap.size (inner := flat [d]) ?_ (Nat.le_refl _) (by simp)⟩
  exact reps_flat (fun x => k77_mkM _ _ _ x) [d]
end Go.Proofs.Ytfkebbkfmchnaaa.Cat
