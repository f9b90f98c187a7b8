/- Rows of leases and of the reference's jobs, their cells laid flat (Cat, turned). Conditions: those of each. -/
import Derived.Test.YtfkebbkfmchnaaaGc
set_option linter.unusedVariables false
namespace Go.Proofs.Ytfkebbkfmchnaaa.CatG
open Go.RowKit Go.Proofs.Ytfkebbkfmchnaaa.Bk Go.Proofs.Ytfkebbkfmchnaaa.PBase Go.Proofs.YtfkebbkfmchnaaaW.PrintWords Go.Proofs.YtfkebbkfmchnaaaW.PrintLast Go.Proofs.YtfkebbkfmchnaaaW.PrintMore
def k85 : Kd Gr := Kd.iso (Kd.pair (Kd.int .i64) (Kd.pair (Kd.int .i64) (Kd.int .u64))) (fun x : Gr => (x.n, x.j, x.u))
theorem k85_open {w : World} {x : Gr} {cs : List Value} (h : k85.K w x cs) : cs = [.int .i64 x.n, .int .i64 x.j, .int .u64 x.u] := by
  obtain ⟨_, _, rfl, rfl, ⟨_, _, rfl, rfl, rfl⟩⟩ := h
  exact rfl
theorem k85_openM {w : World} {base : Nat} {ok : Nat → Prop} {x : Gr} {cs : List Value} (h : k85.M w base ok x cs) : cs = [.int .i64 x.n, .int .i64 x.j, .int .u64 x.u] := by
  obtain ⟨_, _, rfl, rfl, ⟨_, _, rfl, rfl, rfl⟩⟩ := h
  exact rfl
theorem k85_mk (w : World) (x : Gr) : k85.K w x [.int .i64 x.n, .int .i64 x.j, .int .u64 x.u] := ⟨[.int .i64 x.n], [.int .i64 x.j, .int .u64 x.u], rfl, rfl, ⟨[.int .i64 x.j], [.int .u64 x.u], rfl, rfl, rfl⟩⟩
theorem k85_mkM (w : World) (base : Nat) (ok : Nat → Prop) (x : Gr) : k85.M w base ok x [.int .i64 x.n, .int .i64 x.j, .int .u64 x.u] := ⟨[.int .i64 x.n], [.int .i64 x.j, .int .u64 x.u], rfl, rfl, ⟨[.int .i64 x.j], [.int .u64 x.u], rfl, rfl, rfl⟩⟩
theorem info85 : (Try.prog.info? 85).map (fun i => (i.zero, i.size, i.bytes)) = some (some (.agg #[(.int .i64 0), (.int .i64 0), (.int .u64 0)]), 3, 24) := by kernel_rfl
/-- A job's three cells. -/
def enc (x : Gr) : List Value := [.int .i64 x.n, .int .i64 x.j, .int .u64 x.u]
def flat (xs : List Gr) : List Value := xs.flatMap enc
theorem flat_cons (x : Gr) (xs : List Gr) : flat (x :: xs) = enc x ++ flat xs := rfl
theorem flat_append (xs ys : List Gr) : flat (xs ++ ys) = flat xs ++ flat ys := by simp [flat]
theorem flat_len (xs : List Gr) : (flat xs).length = xs.length * 3 := by
  induction xs with
  | nil => rfl
  | cons x xs ih => rw [flat_cons, List.length_append, ih]; simp [enc]; omega
theorem flat_one {xs : List Gr} : ∀ u ∈ flat xs, u.oneCell' = true := by
  intro u hu
  obtain ⟨x, _, hu⟩ := List.mem_flatMap.1 hu
  simp only [enc, List.mem_cons, List.not_mem_nil, or_false] at hu
  rcases hu with rfl | rfl | rfl <;> rfl
theorem reps_flat {R : Gr → List Value → Prop} (hR : ∀ x, R x (enc x)) (xs : List Gr) : Reps R 3 xs (flat xs) := by
  refine ⟨flat_len xs, fun j p hj => ?_⟩
  induction xs generalizing j with
  | nil => simp at hj
  | cons x xs ih =>
    rw [flat_cons]
    cases j with
    | zero =>
      have : x = p := by simpa using hj
      subst this
      exact hR x
    | succ j =>
      have e : (enc x ++ flat xs).drop ((j + 1) * 3) = (flat xs).drop (j * 3) := by
        rw [show (j + 1) * 3 = (enc x).length + j * 3 by simp [enc]; omega, ← List.drop_drop, List.drop_left]
      rw [e]
      exact ih j (by simpa using hj)
theorem flat_of_reps {R : Gr → List Value → Prop} (hR : ∀ x cs, R x cs → cs = enc x) : ∀ (xs : List Gr) (cs : List Value), Reps R 3 xs cs → cs = flat xs := by
  intro xs
  induction xs with
  | nil => intro cs h; exact List.eq_nil_of_length_eq_zero (by simpa using h.1)
  | cons x xs ih =>
    intro cs h
    have h0 := hR _ _ (h.2 0 x rfl)
    rw [Nat.zero_mul, List.drop_zero] at h0
    have h1 := ih (cs.drop 3) ⟨by rw [List.length_drop, h.1, List.length_cons]; omega, fun j p hj => by
      have := h.2 (j + 1) p (by simpa using hj)
      rwa [List.drop_drop, show 3 + j * 3 = (j + 1) * 3 by omega]⟩
    rw [flat_cons, ← h0, ← h1, List.take_append_drop]
section
variable {w : World} {base n c : Nat} {ok : Nat → Prop} {v : Value} {xs : List Gr}
theorem R_of_own (h : w.ownsRow base 85 3 v xs.length (flat xs)) : Kd.R k85 85 w base (fun _ => True) v xs :=
  ⟨fun _ _ => trivial, flat xs, h, reps_flat (fun x => k85_mkM _ _ _ x) xs⟩
theorem own_of_R (h : Kd.R k85 85 w base ok v xs) : w.ownsRow base 85 3 v xs.length (flat xs) := by
  obtain ⟨_, inner, ho, hr⟩ := h
  rw [← flat_of_reps (fun x cs hc => k85_openM hc) xs inner hr]
  exact ho
theorem C_cells {ad : Addr} (h : Kd.C k85 w (some ad) n xs) : ∀ j u, (flat xs)[j]? = some u → w.cell? (ad.add j) = some u := by
  obtain ⟨inner, hr, hc⟩ := ReadsRow.inner_ h
  rw [← flat_of_reps (fun x cs hc => k85_open hc) xs inner hr]
  exact hc
theorem C_of_cells {ad : Addr} (hn : xs.length = n) (hm : n ≤ 9223372036854775807) (h : ∀ j u, (flat xs)[j]? = some u → w.cell? (ad.add j) = some u) : Kd.C k85 w (some ad) n xs := by
  refine ⟨hn, hm, fun _ => ⟨ad, rfl, fun j p hj => ⟨enc p, rfl, k85_mk _ _, fun i u hu => h (j * 3 + i) u ?_⟩⟩⟩
  have h2 := (reps_flat (R := fun x cs => cs = enc x) (fun x => rfl) xs).2 j p hj
  have hi : i < 3 := by have := (List.getElem?_eq_some_iff.1 hu).1; simpa [enc] using this
  rw [← h2, List.getElem?_take, if_pos hi, List.getElem?_drop] at hu
  exact hu
theorem C_one (d : Gr) : Kd.C k85 (w.alloc (.cells #[.int .i64 d.n, .int .i64 d.j, .int .u64 d.u] 85)) (some ⟨w.heap.size, 0, none⟩) 1 [d] := by
  refine C_of_cells rfl (by omega) fun j u hu => ?_
  match j with
  | 0 => simpa [flat, enc, Addr.add] using hu
  | 1 => simpa [flat, enc, Addr.add] using hu
  | 2 => simpa [flat, enc, Addr.add] using hu
  | j + 3 => simp [flat, enc] at hu
end
/-- append(v, ys...), v the call's own, as a run. -/
theorem run_rows {W : World} {base : Nat} {ok : Nat → Prop} {v : Value} {xs : List Gr} (ty : TypeId) (A : Option Addr) (m c : Nat) (ys : List Gr) (HO : Kd.R k85 85 W base ok v xs) (HR : Kd.C k85 W A m ys) (hbase : base ≤ W.heap.size) (hl : (xs.length + m) * 24 ≤ 140737488355328) :
    ∃ v1 w1, (Builtin.append_ #[91, 91] ty #[v, .slice A m c]).run Try.prog W = .ok v1 w1 ∧ Kd.R k85 85 w1 base (fun _ => True) v1 (xs ++ ys) ∧ Below base W w1 := by
  obtain ⟨i0, hi, hzz⟩ := Option.map_eq_some_iff.1 info85
  simp only [Prod.mk.injEq] at hzz
  obtain ⟨hz0, hz1, hz2⟩ := hzz
  have hyl : ys.length = m := HR.1
  have hown := own_of_R HO
  rcases A with _ | ad
  · have h0 : m = 0 := by
      rcases Nat.eq_zero_or_pos m with h0 | h0
      · exact h0
      · obtain ⟨ad, h, _⟩ := HR.2.2 h0
        cases h
    subst h0
    obtain rfl : ys = [] := List.eq_nil_of_length_eq_zero hyl
    refine ⟨v, W, ?_, by rw [List.append_nil]; exact Kd.R_mono HO (fun _ _ => trivial), Below.refl _ _⟩
    rcases hown.2 with ⟨rfl, hn⟩ | ⟨g, cap, cur, rfl, _, _, hnc, _⟩
    · simp [Builtin.append_, run_underlying Try.underlying91, sizeOf, typeInfo, hi, Builtin.lenOf, Builtin.firstCells]
    · simp [Builtin.append_, run_underlying Try.underlying91, sizeOf, typeInfo, hi, Builtin.lenOf, Builtin.firstCells, hnc, storeCells]
  · obtain ⟨v1, w1, hrun, h2, hg, _, _⟩ := run_append_own_at (P := Try.prog) W base 91 ty 85 i0 _ 3 24 Try.underlying91 hi hz0 hz1 hz2 rfl (by decide) v xs.length (flat xs) hown ad m c (flat ys) (by rw [flat_len, hyl]) (C_cells HR) flat_one (by simp only [maxLen]; omega) hl hbase
    refine ⟨v1, w1, hrun, R_of_own ?_, ⟨hg.os, hg.tape, hg.output, hg.size, fun k hk => hg.block k (Nat.lt_of_lt_of_le hk hbase) (fun he => by have := own_base hown k he.symm; omega)⟩⟩
    rw [← flat_append, ← hyl, ← List.length_append] at h2
    exact h2
section
variable {ops : Array Oper} {o : Oper} {a : Act} {Q : Exit → Act → World → Prop} {K : Act → World → Prop}
theorem step_rows {W : World} (base : Nat) {ok : Nat → Prop} (hw : Region.wanted o (yielded ops a.tmps) = true) (s x : Operand) (ho : o.op = .call { callee := .builtin .append, args := #[s, x], argTypes := #[91, 91] })
    (v : Value) (xs : List Gr) (A : Option Addr) (m c : Nat) (ys : List Gr) (hs : a.eval s = v) (hx : a.eval x = .slice A m c) (HO : Kd.R k85 85 W base ok v xs) (HR : Kd.C k85 W A m ys) (hbase : base ≤ W.heap.size) (hl : (xs.length + m) * 24 ≤ 140737488355328)
    (h : ∀ v1 w1, Kd.R k85 85 w1 base (fun _ => True) v1 (xs ++ ys) → Below base W w1 → K (a.put o.dst v1) w1) :
    if Region.wanted o (yielded ops a.tmps) = true then Oper.wp Try.prog o a W K Q else K (a.put o.dst undef) W := by
  obtain ⟨v1, w1, hr, h1, h2⟩ := run_rows o.type A m c ys HO HR hbase hl
  refine event_step hw ?_ (h v1 w1 h1 h2)
  unfold execOp
  simp only [ho, resolve, invoke, builtin, Sem.run_bind, Sem.run_pure, Result.andThen_ok, List.map_toArray, List.map_cons, List.map_nil, hs, hx, hr]
end
/-- A literal of one job. -/
theorem R_lit1 (W : World) (d : Gr) : Kd.R k85 85 (W.alloc (.cells #[.int .i64 d.n, .int .i64 d.j, .int .u64 d.u] 85)) W.heap.size (fun _ => True) (.slice (some ⟨W.heap.size, 0, none⟩) 1 1) [d] := by
  refine ⟨fun _ _ => trivial, OwnRow.lit W W.heap.size (inner := flat [d]) ?_ (Nat.le_refl _) (by simp)⟩
  exact reps_flat (fun x => k85_mkM _ _ _ x) [d]
end Go.Proofs.Ytfkebbkfmchnaaa.CatG

namespace Go.Proofs.Ytfkebbkfmchnaaa.CatJ
open Go.RowKit Go.Proofs.Ytfkebbkfmchnaaa.Bk Go.Proofs.Ytfkebbkfmchnaaa.PBase Go.Proofs.YtfkebbkfmchnaaaW.PrintWords Go.Proofs.YtfkebbkfmchnaaaW.PrintLast Go.Proofs.YtfkebbkfmchnaaaW.PrintMore
def k98 : Kd Jb := Kd.iso (Kd.pair (Kd.int .i64) (Kd.pair (Kd.int .i64) (Kd.pair (Kd.int .i64) (Kd.int .i64)))) (fun x : Jb => (x.id, x.cls, x.st, x.us))
theorem k98_open {w : World} {x : Jb} {cs : List Value} (h : k98.K w x cs) : cs = [.int .i64 x.id, .int .i64 x.cls, .int .i64 x.st, .int .i64 x.us] := by
  obtain ⟨_, _, rfl, rfl, ⟨_, _, rfl, rfl, ⟨_, _, rfl, rfl, rfl⟩⟩⟩ := h
  exact rfl
theorem k98_openM {w : World} {base : Nat} {ok : Nat → Prop} {x : Jb} {cs : List Value} (h : k98.M w base ok x cs) : cs = [.int .i64 x.id, .int .i64 x.cls, .int .i64 x.st, .int .i64 x.us] := by
  obtain ⟨_, _, rfl, rfl, ⟨_, _, rfl, rfl, ⟨_, _, rfl, rfl, rfl⟩⟩⟩ := h
  exact rfl
theorem k98_mk (w : World) (x : Jb) : k98.K w x [.int .i64 x.id, .int .i64 x.cls, .int .i64 x.st, .int .i64 x.us] := ⟨[.int .i64 x.id], [.int .i64 x.cls, .int .i64 x.st, .int .i64 x.us], rfl, rfl, ⟨[.int .i64 x.cls], [.int .i64 x.st, .int .i64 x.us], rfl, rfl, ⟨[.int .i64 x.st], [.int .i64 x.us], rfl, rfl, rfl⟩⟩⟩
theorem k98_mkM (w : World) (base : Nat) (ok : Nat → Prop) (x : Jb) : k98.M w base ok x [.int .i64 x.id, .int .i64 x.cls, .int .i64 x.st, .int .i64 x.us] := ⟨[.int .i64 x.id], [.int .i64 x.cls, .int .i64 x.st, .int .i64 x.us], rfl, rfl, ⟨[.int .i64 x.cls], [.int .i64 x.st, .int .i64 x.us], rfl, rfl, ⟨[.int .i64 x.st], [.int .i64 x.us], rfl, rfl, rfl⟩⟩⟩
theorem info98 : (Try.prog.info? 98).map (fun i => (i.zero, i.size, i.bytes)) = some (some (.agg #[(.int .i64 0), (.int .i64 0), (.int .i64 0), (.int .i64 0)]), 4, 32) := by kernel_rfl
/-- A job's three cells. -/
def enc (x : Jb) : List Value := [.int .i64 x.id, .int .i64 x.cls, .int .i64 x.st, .int .i64 x.us]
def flat (xs : List Jb) : List Value := xs.flatMap enc
theorem flat_cons (x : Jb) (xs : List Jb) : flat (x :: xs) = enc x ++ flat xs := rfl
theorem flat_append (xs ys : List Jb) : flat (xs ++ ys) = flat xs ++ flat ys := by simp [flat]
theorem flat_len (xs : List Jb) : (flat xs).length = xs.length * 4 := by
  induction xs with
  | nil => rfl
  | cons x xs ih => rw [flat_cons, List.length_append, ih]; simp [enc]; omega
theorem flat_one {xs : List Jb} : ∀ u ∈ flat xs, u.oneCell' = true := by
  intro u hu
  obtain ⟨x, _, hu⟩ := List.mem_flatMap.1 hu
  simp only [enc, List.mem_cons, List.not_mem_nil, or_false] at hu
  rcases hu with rfl | rfl | rfl | rfl <;> rfl
theorem reps_flat {R : Jb → List Value → Prop} (hR : ∀ x, R x (enc x)) (xs : List Jb) : Reps R 4 xs (flat xs) := by
  refine ⟨flat_len xs, fun j p hj => ?_⟩
  induction xs generalizing j with
  | nil => simp at hj
  | cons x xs ih =>
    rw [flat_cons]
    cases j with
    | zero =>
      have : x = p := by simpa using hj
      subst this
      exact hR x
    | succ j =>
      have e : (enc x ++ flat xs).drop ((j + 1) * 4) = (flat xs).drop (j * 4) := by
        rw [show (j + 1) * 4 = (enc x).length + j * 4 by simp [enc]; omega, ← List.drop_drop, List.drop_left]
      rw [e]
      exact ih j (by simpa using hj)
theorem flat_of_reps {R : Jb → List Value → Prop} (hR : ∀ x cs, R x cs → cs = enc x) : ∀ (xs : List Jb) (cs : List Value), Reps R 4 xs cs → cs = flat xs := by
  intro xs
  induction xs with
  | nil => intro cs h; exact List.eq_nil_of_length_eq_zero (by simpa using h.1)
  | cons x xs ih =>
    intro cs h
    have h0 := hR _ _ (h.2 0 x rfl)
    rw [Nat.zero_mul, List.drop_zero] at h0
    have h1 := ih (cs.drop 4) ⟨by rw [List.length_drop, h.1, List.length_cons]; omega, fun j p hj => by
      have := h.2 (j + 1) p (by simpa using hj)
      rwa [List.drop_drop, show 4 + j * 4 = (j + 1) * 4 by omega]⟩
    rw [flat_cons, ← h0, ← h1, List.take_append_drop]
section
variable {w : World} {base n c : Nat} {ok : Nat → Prop} {v : Value} {xs : List Jb}
theorem R_of_own (h : w.ownsRow base 98 4 v xs.length (flat xs)) : Kd.R k98 98 w base (fun _ => True) v xs :=
  ⟨fun _ _ => trivial, flat xs, h, reps_flat (fun x => k98_mkM _ _ _ x) xs⟩
theorem own_of_R (h : Kd.R k98 98 w base ok v xs) : w.ownsRow base 98 4 v xs.length (flat xs) := by
  obtain ⟨_, inner, ho, hr⟩ := h
  rw [← flat_of_reps (fun x cs hc => k98_openM hc) xs inner hr]
  exact ho
theorem C_cells {ad : Addr} (h : Kd.C k98 w (some ad) n xs) : ∀ j u, (flat xs)[j]? = some u → w.cell? (ad.add j) = some u := by
  obtain ⟨inner, hr, hc⟩ := ReadsRow.inner_ h
  rw [← flat_of_reps (fun x cs hc => k98_open hc) xs inner hr]
  exact hc
theorem C_of_cells {ad : Addr} (hn : xs.length = n) (hm : n ≤ 9223372036854775807) (h : ∀ j u, (flat xs)[j]? = some u → w.cell? (ad.add j) = some u) : Kd.C k98 w (some ad) n xs := by
  refine ⟨hn, hm, fun _ => ⟨ad, rfl, fun j p hj => ⟨enc p, rfl, k98_mk _ _, fun i u hu => h (j * 4 + i) u ?_⟩⟩⟩
  have h2 := (reps_flat (R := fun x cs => cs = enc x) (fun x => rfl) xs).2 j p hj
  have hi : i < 4 := by have := (List.getElem?_eq_some_iff.1 hu).1; simpa [enc] using this
  rw [← h2, List.getElem?_take, if_pos hi, List.getElem?_drop] at hu
  exact hu
theorem C_one (d : Jb) : Kd.C k98 (w.alloc (.cells #[.int .i64 d.id, .int .i64 d.cls, .int .i64 d.st, .int .i64 d.us] 98)) (some ⟨w.heap.size, 0, none⟩) 1 [d] := by
  refine C_of_cells rfl (by omega) fun j u hu => ?_
  match j with
  | 0 => simpa [flat, enc, Addr.add] using hu
  | 1 => simpa [flat, enc, Addr.add] using hu
  | 2 => simpa [flat, enc, Addr.add] using hu
  | 3 => simpa [flat, enc, Addr.add] using hu
  | j + 4 => simp [flat, enc] at hu
end
/-- append(v, ys...), v the call's own, as a run. -/
theorem run_rows {W : World} {base : Nat} {ok : Nat → Prop} {v : Value} {xs : List Jb} (ty : TypeId) (A : Option Addr) (m c : Nat) (ys : List Jb) (HO : Kd.R k98 98 W base ok v xs) (HR : Kd.C k98 W A m ys) (hbase : base ≤ W.heap.size) (hl : (xs.length + m) * 32 ≤ 140737488355328) :
    ∃ v1 w1, (Builtin.append_ #[94, 94] ty #[v, .slice A m c]).run Try.prog W = .ok v1 w1 ∧ Kd.R k98 98 w1 base (fun _ => True) v1 (xs ++ ys) ∧ Below base W w1 := by
  obtain ⟨i0, hi, hzz⟩ := Option.map_eq_some_iff.1 info98
  simp only [Prod.mk.injEq] at hzz
  obtain ⟨hz0, hz1, hz2⟩ := hzz
  have hyl : ys.length = m := HR.1
  have hown := own_of_R HO
  rcases A with _ | ad
  · have h0 : m = 0 := by
      rcases Nat.eq_zero_or_pos m with h0 | h0
      · exact h0
      · obtain ⟨ad, h, _⟩ := HR.2.2 h0
        cases h
    subst h0
    obtain rfl : ys = [] := List.eq_nil_of_length_eq_zero hyl
    refine ⟨v, W, ?_, by rw [List.append_nil]; exact Kd.R_mono HO (fun _ _ => trivial), Below.refl _ _⟩
    rcases hown.2 with ⟨rfl, hn⟩ | ⟨g, cap, cur, rfl, _, _, hnc, _⟩
    · simp [Builtin.append_, run_underlying Try.underlying94, sizeOf, typeInfo, hi, Builtin.lenOf, Builtin.firstCells]
    · simp [Builtin.append_, run_underlying Try.underlying94, sizeOf, typeInfo, hi, Builtin.lenOf, Builtin.firstCells, hnc, storeCells]
  · obtain ⟨v1, w1, hrun, h2, hg, _, _⟩ := run_append_own_at (P := Try.prog) W base 94 ty 98 i0 _ 4 32 Try.underlying94 hi hz0 hz1 hz2 rfl (by decide) v xs.length (flat xs) hown ad m c (flat ys) (by rw [flat_len, hyl]) (C_cells HR) flat_one (by simp only [maxLen]; omega) hl hbase
    refine ⟨v1, w1, hrun, R_of_own ?_, ⟨hg.os, hg.tape, hg.output, hg.size, fun k hk => hg.block k (Nat.lt_of_lt_of_le hk hbase) (fun he => by have := own_base hown k he.symm; omega)⟩⟩
    rw [← flat_append, ← hyl, ← List.length_append] at h2
    exact h2
section
variable {ops : Array Oper} {o : Oper} {a : Act} {Q : Exit → Act → World → Prop} {K : Act → World → Prop}
theorem step_rows {W : World} (base : Nat) {ok : Nat → Prop} (hw : Region.wanted o (yielded ops a.tmps) = true) (s x : Operand) (ho : o.op = .call { callee := .builtin .append, args := #[s, x], argTypes := #[94, 94] })
    (v : Value) (xs : List Jb) (A : Option Addr) (m c : Nat) (ys : List Jb) (hs : a.eval s = v) (hx : a.eval x = .slice A m c) (HO : Kd.R k98 98 W base ok v xs) (HR : Kd.C k98 W A m ys) (hbase : base ≤ W.heap.size) (hl : (xs.length + m) * 32 ≤ 140737488355328)
    (h : ∀ v1 w1, Kd.R k98 98 w1 base (fun _ => True) v1 (xs ++ ys) → Below base W w1 → K (a.put o.dst v1) w1) :
    if Region.wanted o (yielded ops a.tmps) = true then Oper.wp Try.prog o a W K Q else K (a.put o.dst undef) W := by
  obtain ⟨v1, w1, hr, h1, h2⟩ := run_rows o.type A m c ys HO HR hbase hl
  refine event_step hw ?_ (h v1 w1 h1 h2)
  unfold execOp
  simp only [ho, resolve, invoke, builtin, Sem.run_bind, Sem.run_pure, Result.andThen_ok, List.map_toArray, List.map_cons, List.map_nil, hs, hx, hr]
end
/-- A literal of one job. -/
theorem R_lit1 (W : World) (d : Jb) : Kd.R k98 98 (W.alloc (.cells #[.int .i64 d.id, .int .i64 d.cls, .int .i64 d.st, .int .i64 d.us] 98)) W.heap.size (fun _ => True) (.slice (some ⟨W.heap.size, 0, none⟩) 1 1) [d] := by
  refine ⟨fun _ _ => trivial, OwnRow.lit W W.heap.size (inner := flat [d]) ?_ (Nat.le_refl _) (by simp)⟩
  exact reps_flat (fun x => k98_mkM _ _ _ x) [d]
end Go.Proofs.Ytfkebbkfmchnaaa.CatJ
