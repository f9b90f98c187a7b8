/- A heap in a list, plain: up, down, what they keep. Conditions: the order is transitive and total. -/
import Derived.Calls
import Derived.Test.YtfkebbkfmchnaaaPBasex3
import Derived.Maps.AppendAt
import Derived.Deep.RegionHeld3
import Derived.Lib.AppendZeros
import Derived.StillTailTactics
import Derived.BigQuiet
namespace Go.Proofs.Ytfkebbkfmchnaaa.Heap
section
variable {α : Type} (z : α) (lt : α → α → Bool)
def g (l : List α) (m : Nat) : α := l.getD m z
def sw (l : List α) (i j : Nat) : List α := (l.set i (g z l j)).set j (g z l i)
theorem sw_len (l : List α) (i j : Nat) : (sw z l i j).length = l.length := by simp [sw]
theorem g_lt {l : List α} {m : Nat} (h : m < l.length) : g z l m = l[m] := by simp [g, h]
theorem sw_perm {l : List α} {i j : Nat} (hi : i < l.length) (hj : j < l.length) : (sw z l i j).Perm l := by
  unfold sw
  rw [g_lt z hi, g_lt z hj]
  exact List.set_set_perm hi hj
theorem sw_get {l : List α} {i j : Nat} (hi : i < l.length) (hj : j < l.length) (m : Nat) : g z (sw z l i j) m = if m = j then g z l i else if m = i then g z l j else g z l m := by
  unfold sw
  by_cases hm : m < l.length
  · rw [g_lt z (by simpa using hm), List.getElem_set]
    by_cases e : j = m
    · rw [if_pos e, if_pos e.symm]
    · rw [if_neg e, if_neg (fun h => e h.symm), List.getElem_set]
      by_cases e2 : i = m
      · rw [if_pos e2, if_pos e2.symm]
      · rw [if_neg e2, if_neg (fun h => e2 h.symm), g_lt z hm]
  · rw [if_neg (by omega), if_neg (by omega)]
    unfold g
    have e1 : ∀ (k : List α), k.length ≤ m → k.getD m z = z := fun k hk => by rw [List.getD_eq_getElem?_getD, List.getElem?_eq_none hk]; rfl
    rw [e1 _ (by simp; omega), e1 _ (by omega)]
/-- Not behind. -/
def nb (a b : α) : Prop := lt b a = false
def up : Nat → List α → Nat → List α
  | 0, l, _ => l
  | f + 1, l, j => if (j - 1) / 2 = j ∨ lt (g z l j) (g z l ((j - 1) / 2)) = false then l else up f (sw z l ((j - 1) / 2) j) ((j - 1) / 2)
def kid (l : List α) (i n : Nat) : Nat := if 2 * i + 2 < n ∧ lt (g z l (2 * i + 2)) (g z l (2 * i + 1)) = true then 2 * i + 2 else 2 * i + 1
def down : Nat → List α → Nat → Nat → List α × Nat
  | 0, l, i, _ => (l, i)
  | f + 1, l, i, n => if 2 * i + 1 ≥ n then (l, i) else if lt (g z l (kid z lt l i n)) (g z l i) = false then (l, i) else down f (sw z l i (kid z lt l i n)) (kid z lt l i n) n
/-- The heap's order among the first n. -/
def HP (l : List α) (n : Nat) : Prop := ∀ m, 0 < m → m < n → nb lt (g z l ((m - 1) / 2)) (g z l m)
structure Ord : Prop where
  tr : ∀ {a b c : α}, nb lt a b → nb lt b c → nb lt a c
  tot : ∀ {a b : α}, lt a b = true → nb lt a b
theorem up_spec (O : Ord lt) (n : Nat) : ∀ (f : Nat) (l : List α) (j : Nat), j ≤ f → n ≤ l.length → j < n → (∀ m, 0 < m → m < n → m ≠ j → nb lt (g z l ((m - 1) / 2)) (g z l m)) → (∀ m, 0 < m → m < n → (m - 1) / 2 = j → 0 < j → nb lt (g z l ((j - 1) / 2)) (g z l m)) →
    HP z lt (up z lt f l j) n ∧ (up z lt f l j).Perm l ∧ ∀ m, n ≤ m → g z (up z lt f l j) m = g z l m := by
  intro f
  induction f with
  | zero =>
    intro l j hf hn hj h1 h2
    have : j = 0 := by omega
    subst this
    exact ⟨fun m m0 m1 => h1 m m0 m1 (by omega), List.Perm.refl _, fun _ _ => rfl⟩
  | succ f ih =>
    intro l j hf hn hj h1 h2
    unfold up
    by_cases hc : (j - 1) / 2 = j ∨ lt (g z l j) (g z l ((j - 1) / 2)) = false
    · rw [if_pos hc]
      refine ⟨fun m m0 m1 => ?_, List.Perm.refl _, fun _ _ => rfl⟩
      by_cases e : m = j
      · subst e
        rcases hc with hc | hc
        · omega
        · exact hc
      · exact h1 m m0 m1 e
    · rw [if_neg hc, ]
      rw [not_or] at hc
      obtain ⟨c1, c2⟩ := hc
      have c2' : lt (g z l j) (g z l ((j - 1) / 2)) = true := by simpa using c2
      have j0 : 0 < j := by omega
      obtain ⟨p, hp⟩ : ∃ p, (j - 1) / 2 = p := ⟨_, rfl⟩
      rw [hp] at c1 c2' ⊢
      have hpj : p < j := by omega
      have hs := sw_get z (l := l) (i := p) (j := j) (by omega) (by omega)
      obtain ⟨r1, r2, r3⟩ := ih (sw z l p j) p (by omega) (by rw [sw_len]; exact hn) (by omega) (fun m m0 m1 hm => by
        rw [hs, hs]
        by_cases e1 : m = j
        · subst e1
          rw [if_pos rfl, hp, if_neg (by omega), if_pos rfl]
          exact O.tot c2'
        · rw [if_neg e1, if_neg hm]
          by_cases e2 : (m - 1) / 2 = j
          · rw [if_pos e2]
            have := h2 m m0 m1 e2 j0
            rwa [hp] at this
          · rw [if_neg e2]
            by_cases e3 : (m - 1) / 2 = p
            · rw [if_pos e3]
              have := h1 m m0 m1 e1
              rw [e3] at this
              exact O.tr (O.tot c2') this
            · rw [if_neg e3]
              exact h1 m m0 m1 e1) (fun m m0 m1 hm p0 => by
        rw [hs, hs]
        have k1 : nb lt (g z l ((p - 1) / 2)) (g z l p) := h1 p p0 (by omega) (by omega)
        rw [if_neg (by omega), if_neg (by omega)]
        by_cases e1 : m = j
        · rw [if_pos e1]
          exact k1
        · rw [if_neg e1, if_neg (by omega)]
          have := h1 m m0 m1 e1
          rw [hm] at this
          exact O.tr k1 this)
      refine ⟨r1, r2.trans (sw_perm z (by omega) (by omega)), fun m hm => ?_⟩
      rw [r3 m hm, hs, if_neg (by omega), if_neg (by omega)]
theorem down_spec (O : Ord lt) (n : Nat) : ∀ (f : Nat) (l : List α) (i : Nat), n - i ≤ f → n ≤ l.length → i < n → (∀ m, 0 < m → m < n → m ≠ i → (m - 1) / 2 ≠ i → nb lt (g z l ((m - 1) / 2)) (g z l m)) → (∀ m, 0 < m → m < n → (m - 1) / 2 = i → 0 < i → nb lt (g z l ((i - 1) / 2)) (g z l m)) →
    (down z lt f l i n).1.Perm l ∧ (∀ m, 0 < m → m < n → m ≠ i → nb lt (g z (down z lt f l i n).1 ((m - 1) / 2)) (g z (down z lt f l i n).1 m)) ∧
    (((down z lt f l i n).2 ≠ i ∨ nb lt (g z l ((i - 1) / 2)) (g z l i)) → 0 < i → nb lt (g z (down z lt f l i n).1 ((i - 1) / 2)) (g z (down z lt f l i n).1 i)) ∧
    ((down z lt f l i n).2 = i → (down z lt f l i n).1 = l) ∧ i ≤ (down z lt f l i n).2 ∧ (∀ m, n ≤ m → g z (down z lt f l i n).1 m = g z l m) := by
  intro f
  induction f with
  | zero => intro l i hf hn hi; omega
  | succ f ih =>
    intro l i hf hn hi h1 h2
    unfold down
    by_cases hc : 2 * i + 1 ≥ n
    · rw [if_pos hc]
      refine ⟨List.Perm.refl _, fun m m0 m1 hm => h1 m m0 m1 hm (by omega), fun h i0 => ?_, fun _ => rfl, Nat.le_refl _, fun _ _ => rfl⟩
      rcases h with h | h
      · exact absurd rfl h
      · exact h
    · rw [if_neg hc]
      obtain ⟨q, hq⟩ : ∃ q, kid z lt l i n = q := ⟨_, rfl⟩
      have hkid : (q = 2 * i + 1 ∨ q = 2 * i + 2) ∧ q < n ∧ ∀ m, 0 < m → m < n → (m - 1) / 2 = i → m ≠ q → nb lt (g z l q) (g z l m) := by
        unfold kid at hq
        by_cases h : 2 * i + 2 < n ∧ lt (g z l (2 * i + 2)) (g z l (2 * i + 1)) = true
        · rw [if_pos h] at hq
          subst hq
          refine ⟨.inr rfl, h.1, fun m m0 m1 hm hne => ?_⟩
          have : m = 2 * i + 1 := by omega
          subst this
          exact O.tot h.2
        · rw [if_neg h] at hq
          subst hq
          refine ⟨.inl rfl, by omega, fun m m0 m1 hm hne => ?_⟩
          have : m = 2 * i + 2 := by omega
          subst this
          unfold nb
          cases hl : lt (g z l (2 * i + 2)) (g z l (2 * i + 1)) with
          | true => exact absurd ⟨m1, hl⟩ h
          | false => rfl
      rw [hq]
      obtain ⟨k1, k2, k3⟩ := hkid
      by_cases hd : lt (g z l q) (g z l i) = false
      · rw [if_pos hd]
        refine ⟨List.Perm.refl _, fun m m0 m1 hm => ?_, fun h i0 => ?_, fun _ => rfl, Nat.le_refl _, fun _ _ => rfl⟩
        · by_cases e : (m - 1) / 2 = i
          · by_cases e2 : m = q
            · subst e2
              rw [e]
              exact hd
            · rw [e]
              exact O.tr hd (k3 m m0 m1 e e2)
          · exact h1 m m0 m1 hm e
        · rcases h with h | h
          · exact absurd rfl h
          · exact h
      · rw [if_neg hd]
        have hd' : lt (g z l q) (g z l i) = true := by simpa using hd
        have hs := sw_get z (l := l) (i := i) (j := q) (by omega) (by omega)
        have hqi : (q - 1) / 2 = i := by omega
        obtain ⟨r1, r2, r3, r4, r5, r6⟩ := ih (sw z l i q) q (by omega) (by rw [sw_len]; exact hn) k2 (fun m m0 m1 hm hm2 => by
          rw [hs, hs, if_neg hm2, if_neg hm]
          by_cases e1 : (m - 1) / 2 = i
          · rw [if_pos e1, if_neg (by omega)]
            exact k3 m m0 m1 e1 hm
          · rw [if_neg e1]
            by_cases e2 : m = i
            · subst e2
              rw [if_pos rfl]
              exact h2 q (by omega) k2 hqi (by omega)
            · rw [if_neg e2]
              exact h1 m m0 m1 e2 e1) (fun m m0 m1 hm q0 => by
          rw [hs, hs, hqi, if_neg (by omega), if_pos rfl, if_neg (by omega), if_neg (by omega)]
          have := h1 m m0 m1 (by omega) (by omega)
          rwa [hm] at this)
        have hpq : nb lt (g z (sw z l i q) ((q - 1) / 2)) (g z (sw z l i q) q) := by
          rw [hs, hs, hqi, if_neg (by omega), if_pos rfl, if_pos rfl]
          exact O.tot hd'
        have rq := r3 (.inr hpq) (by omega)
        refine ⟨r1.trans (sw_perm z (by omega) (by omega)), fun m m0 m1 hm => ?_, fun _ i0 => ?_, fun h => ?_, by omega, fun m hm => ?_⟩
        · by_cases e : m = q
          · subst e; exact rq
          · exact r2 m m0 m1 e
        · exact r2 i i0 hi (by omega)
        · omega
        · rw [r6 m hm, hs, if_neg (by omega), if_neg (by omega)]
/-- The first one is ahead of all. -/
theorem root (O : Ord lt) {l : List α} {n : Nat} (h : HP z lt l n) (hr : nb lt (g z l 0) (g z l 0)) : ∀ m, m < n → nb lt (g z l 0) (g z l m) := by
  intro m
  induction m using Nat.strongRecOn with
  | ind m ih =>
    intro hm
    rcases Nat.eq_zero_or_pos m with h0 | h0
    · subst h0; exact hr
    · exact O.tr (ih ((m - 1) / 2) (by omega) (by omega)) (h m h0 hm)
end
end Go.Proofs.Ytfkebbkfmchnaaa.Heap

namespace Go.Proofs.Ytfkebbkfmchnaaa.Cat
open Go.RowKit Go.Proofs.Ytfkebbkfmchnaaa.PBase Go.Proofs.YtfkebbkfmchnaaaW.PrintWords Go.Proofs.YtfkebbkfmchnaaaW.PrintLast Go.Proofs.YtfkebbkfmchnaaaW.PrintMore
theorem info77 : (Try.prog.info? 77).map (fun i => (i.zero, i.size, i.bytes)) = some (some (.agg #[(.int .i64 0), (.int .i64 0), (.int .i64 0)]), 3, 24) := by kernel_rfl
/-- A job's three cells. -/
def enc (x : S77) : List Value := [.int .i64 x.f0, .int .i64 x.f1, .int .i64 x.f2]
def flat (xs : List S77) : List Value := xs.flatMap enc
theorem flat_cons (x : S77) (xs : List S77) : flat (x :: xs) = enc x ++ flat xs := rfl
theorem flat_append (xs ys : List S77) : flat (xs ++ ys) = flat xs ++ flat ys := by simp [flat]
theorem flat_len (xs : List S77) : (flat xs).length = xs.length * 3 := by
  induction xs with
  | nil => rfl
  | cons x xs ih => rw [flat_cons, List.length_append, ih]; simp [enc]; omega
theorem flat_one {xs : List S77} : ∀ u ∈ flat xs, u.oneCell' = true := by
  intro u hu
  obtain ⟨x, _, hu⟩ := List.mem_flatMap.1 hu
  simp only [enc, List.mem_cons, List.not_mem_nil, or_false] at hu
  rcases hu with rfl | rfl | rfl <;> rfl
theorem reps_flat {R : S77 → List Value → Prop} (hR : ∀ x, R x (enc x)) (xs : List S77) : Reps R 3 xs (flat xs) := by
  refine ⟨flat_len xs, fun j p hj => ?_⟩
  induction xs generalizing j with
  | nil => simp at hj
  | cons x xs ih =>
    rw [flat_cons]
    cases j with
    | zero =>
      have : x = p := by simpa using hj
      subst this
      exact hR x
    | succ j =>
      have e : (enc x ++ flat xs).drop ((j + 1) * 3) = (flat xs).drop (j * 3) := by
        rw [show (j + 1) * 3 = (enc x).length + j * 3 by simp [enc]; omega, ← List.drop_drop, List.drop_left]
      rw [e]
      exact ih j (by simpa using hj)
theorem flat_of_reps {R : S77 → List Value → Prop} (hR : ∀ x cs, R x cs → cs = enc x) : ∀ (xs : List S77) (cs : List Value), Reps R 3 xs cs → cs = flat xs := by
  intro xs
  induction xs with
  | nil => intro cs h; exact List.eq_nil_of_length_eq_zero (by simpa using h.1)
  | cons x xs ih =>
    intro cs h
    have h0 := hR _ _ (h.2 0 x rfl)
    rw [Nat.zero_mul, List.drop_zero] at h0
    have h1 := ih (cs.drop 3) ⟨by rw [List.length_drop, h.1, List.length_cons]; omega, fun j p hj => by
      have := h.2 (j + 1) p (by simpa using hj)
      rwa [List.drop_drop, show 3 + j * 3 = (j + 1) * 3 by omega]⟩
    rw [flat_cons, ← h0, ← h1, List.take_append_drop]
section
variable {w : World} {base n c : Nat} {ok : Nat → Prop} {v : Value} {xs : List S77}
theorem R_of_own (h : w.ownsRow base 77 3 v xs.length (flat xs)) : Kd.R k77 77 w base (fun _ => True) v xs :=
  ⟨fun _ _ => trivial, flat xs, h, reps_flat (fun x => k77_mkM _ _ _ x) xs⟩
theorem own_of_R (h : Kd.R k77 77 w base ok v xs) : w.ownsRow base 77 3 v xs.length (flat xs) := by
  obtain ⟨_, inner, ho, hr⟩ := h
  rw [← flat_of_reps (fun x cs hc => k77_openM hc) xs inner hr]
  exact ho
theorem C_cells {ad : Addr} (h : Kd.C k77 w (some ad) n xs) : ∀ j u, (flat xs)[j]? = some u → w.cell? (ad.add j) = some u := by
  obtain ⟨inner, hr, hc⟩ := ReadsRow.inner_ h
  rw [← flat_of_reps (fun x cs hc => k77_open hc) xs inner hr]
  exact hc
theorem C_of_cells {ad : Addr} (hn : xs.length = n) (hm : n ≤ 9223372036854775807) (h : ∀ j u, (flat xs)[j]? = some u → w.cell? (ad.add j) = some u) : Kd.C k77 w (some ad) n xs := by
  refine ⟨hn, hm, fun _ => ⟨ad, rfl, fun j p hj => ⟨enc p, rfl, k77_mk _ _, fun i u hu => h (j * 3 + i) u ?_⟩⟩⟩
  have h2 := (reps_flat (R := fun x cs => cs = enc x) (fun x => rfl) xs).2 j p hj
  have hi : i < 3 := by have := (List.getElem?_eq_some_iff.1 hu).1; simpa [enc] using this
  rw [← h2, List.getElem?_take, if_pos hi, List.getElem?_drop] at hu
  exact hu
theorem C_one (d : S77) : Kd.C k77 (w.alloc (.cells #[.int .i64 d.f0, .int .i64 d.f1, .int .i64 d.f2] 77)) (some ⟨w.heap.size, 0, none⟩) 1 [d] := by
  refine C_of_cells rfl (by omega) fun j u hu => ?_
  match j with
  | 0 => simpa [flat, enc, Addr.add] using hu
  | 1 => simpa [flat, enc, Addr.add] using hu
  | 2 => simpa [flat, enc, Addr.add] using hu
  | j + 3 => simp [flat, enc] at hu
end
/-- append(v, ys...), v the call's own, as a run. -/
theorem run_rows {W : World} {base : Nat} {ok : Nat → Prop} {v : Value} {xs : List S77} (ty : TypeId) (A : Option Addr) (m c : Nat) (ys : List S77) (HO : Kd.R k77 77 W base ok v xs) (HR : Kd.C k77 W A m ys) (hbase : base ≤ W.heap.size) (hl : (xs.length + m) * 24 ≤ 140737488355328) :
    ∃ v1 w1, (Builtin.append_ #[63, 63] ty #[v, .slice A m c]).run Try.prog W = .ok v1 w1 ∧ Kd.R k77 77 w1 base (fun _ => True) v1 (xs ++ ys) ∧ Below base W w1 := by
  obtain ⟨i0, hi, hzz⟩ := Option.map_eq_some_iff.1 info77
  simp only [Prod.mk.injEq] at hzz
  obtain ⟨hz0, hz1, hz2⟩ := hzz
  have hyl : ys.length = m := HR.1
  have hown := own_of_R HO
  rcases A with _ | ad
  · have h0 : m = 0 := by
      rcases Nat.eq_zero_or_pos m with h0 | h0
      · exact h0
      · obtain ⟨ad, h, _⟩ := HR.2.2 h0
        cases h
    subst h0
    obtain rfl : ys = [] := List.eq_nil_of_length_eq_zero hyl
    refine ⟨v, W, ?_, by rw [List.append_nil]; exact Kd.R_mono HO (fun _ _ => trivial), Below.refl _ _⟩
    rcases hown.2 with ⟨rfl, hn⟩ | ⟨g, cap, cur, rfl, _, _, hnc, _⟩
    · simp [Builtin.append_, run_underlying Try.underlying63, sizeOf, typeInfo, hi, Builtin.lenOf, Builtin.firstCells]
    · simp [Builtin.append_, run_underlying Try.underlying63, sizeOf, typeInfo, hi, Builtin.lenOf, Builtin.firstCells, hnc, storeCells]
  · obtain ⟨v1, w1, hrun, h2, hg, _, _⟩ := run_append_own_at (P := Try.prog) W base 63 ty 77 i0 _ 3 24 Try.underlying63 hi hz0 hz1 hz2 rfl (by decide) v xs.length (flat xs) hown ad m c (flat ys) (by rw [flat_len, hyl]) (C_cells HR) flat_one (by simp only [maxLen]; omega) hl hbase
    refine ⟨v1, w1, hrun, R_of_own ?_, ⟨hg.os, hg.tape, hg.output, hg.size, fun k hk => hg.block k (Nat.lt_of_lt_of_le hk hbase) (fun he => by have := own_base hown k he.symm; omega)⟩⟩
    rw [← flat_append, ← hyl, ← List.length_append] at h2
    exact h2
section
variable {ops : Array Oper} {o : Oper} {a : Act} {Q : Exit → Act → World → Prop} {K : Act → World → Prop}
theorem step_rows {W : World} (base : Nat) {ok : Nat → Prop} (hw : Region.wanted o (yielded ops a.tmps) = true) (s x : Operand) (ho : o.op = .call { callee := .builtin .append, args := #[s, x], argTypes := #[63, 63] })
    (v : Value) (xs : List S77) (A : Option Addr) (m c : Nat) (ys : List S77) (hs : a.eval s = v) (hx : a.eval x = .slice A m c) (HO : Kd.R k77 77 W base ok v xs) (HR : Kd.C k77 W A m ys) (hbase : base ≤ W.heap.size) (hl : (xs.length + m) * 24 ≤ 140737488355328)
    (h : ∀ v1 w1, Kd.R k77 77 w1 base (fun _ => True) v1 (xs ++ ys) → Below base W w1 → K (a.put o.dst v1) w1) :
    if Region.wanted o (yielded ops a.tmps) = true then Oper.wp Try.prog o a W K Q else K (a.put o.dst undef) W := by
  obtain ⟨v1, w1, hr, h1, h2⟩ := run_rows o.type A m c ys HO HR hbase hl
  refine event_step hw ?_ (h v1 w1 h1 h2)
  unfold execOp
  simp only [ho, resolve, invoke, builtin, Sem.run_bind, Sem.run_pure, Result.andThen_ok, List.map_toArray, List.map_cons, List.map_nil, hs, hx, hr]
end
/-- A literal of one job. -/
theorem R_lit1 (W : World) (d : S77) : Kd.R k77 77 (W.alloc (.cells #[.int .i64 d.f0, .int .i64 d.f1, .int .i64 d.f2] 77)) W.heap.size (fun _ => True) (.slice (some ⟨W.heap.size, 0, none⟩) 1 1) [d] := by
  refine ⟨fun _ _ => trivial, OwnRow.lit W W.heap.size (inner := flat [d]) ?_ (Nat.le_refl _) (by simp)⟩
  exact reps_flat (fun x => k77_mkM _ _ _ x) [d]
end Go.Proofs.Ytfkebbkfmchnaaa.Cat

namespace Go.Proofs.Ytfkebbkfmchnaaa.Ln
open Go.RowKit Go.Proofs.Ytfkebbkfmchnaaa.PBase Go.Proofs.Ytfkebbkfmchnaaa.Cat Go.Proofs.Ytfkebbkfmchnaaa.Heap Go.Proofs.YtfkebbkfmchnaaaW.PrintWords Go.Proofs.YtfkebbkfmchnaaaW.PrintLast Go.Proofs.YtfkebbkfmchnaaaW.PrintMore
/-- What a call keeps: all but the blocks F, and what is new. -/
structure Fr (F : Nat → Prop) (W W' : World) : Prop where
  os : W'.os = W.os
  tape : W'.tape = W.tape
  out : W'.output = W.output
  size : W.heap.size ≤ W'.heap.size
  blk : ∀ k, k < W.heap.size → ¬ F k → W'.heap[k]? = W.heap[k]?
theorem Fr.refl (F : Nat → Prop) (W : World) : Fr F W W := ⟨rfl, rfl, rfl, Nat.le_refl _, fun _ _ _ => rfl⟩
theorem Fr.of_below {F : Nat → Prop} {W W' : World} (h : Below W.heap.size W W') : Fr F W W' := ⟨h.os, h.tape, h.output, h.size, fun k hk _ => h.block k hk⟩
theorem Fr.of_grown {F : Nat → Prop} {W W' : World} {row : Option Nat} (h : W.grownBy W' row) (hF : ∀ k, row = some k → F k) : Fr F W W' := ⟨h.os, h.tape, h.output, h.size, fun k hk hn => h.block k hk (fun e => hn (hF k e.symm))⟩
theorem Fr.then_ {F F2 : Nat → Prop} {W W1 W2 : World} (h : Fr F W W1) (k : Fr F2 W1 W2) (hF : ∀ b, F2 b → F b ∨ W.heap.size ≤ b) : Fr F W W2 :=
  ⟨k.os.trans h.os, k.tape.trans h.tape, k.out.trans h.out, Nat.le_trans h.size k.size, fun b hb hn => (k.blk b (Nat.lt_of_lt_of_le hb h.size) (fun h2 => by
    rcases hF b h2 with h3 | h3
    · exact hn h3
    · omega)).trans (h.blk b hb hn)⟩
theorem Fr.below {F : Nat → Prop} {W W' : World} {base : Nat} (h : Fr F W W') (hb : base ≤ W.heap.size) (hF : ∀ k, F k → base ≤ k) : Below base W W' := ⟨h.os, h.tape, h.out, h.size, fun k hk => h.blk k (Nat.lt_of_lt_of_le hk hb) (fun e => by have := hF k e; omega)⟩
theorem Fr.cell {F : Nat → Prop} {W W' : World} (h : Fr F W W') {a : Addr} {v : Value} (hc : W.cell? a = some v) (hn : ¬ F a.block) : W'.cell? a = some v := by
  rw [World.cell?_of_block (h.blk a.block (World.block_lt_of_cell? W a hc) hn)]
  exact hc
/-- A queue's blocks. -/
def QF (B : Nat) (v : Value) (k : Nat) : Prop := k = B ∨ v.ownBlock = some k
/-- The row's block is the elder one, or new. -/
def At (W : World) (v v' : Value) : Prop := v'.ownBlock = v.ownBlock ∨ ∃ b, v'.ownBlock = some b ∧ W.heap.size ≤ b
/-- A queue in memory: its block B; aging, the row v of the jobs L, room, count. -/
structure QS (W : World) (base B : Nat) (ag : Int) (v : Value) (rm ct : Int) (L : List S77) : Prop where
  blk : W.heap[B]? = some (.cells #[.int .i64 ag, v, .int .i64 rm, .int .i64 ct] 111 (0, 0))
  lb : base ≤ B
  own : W.ownsRow base 77 3 v L.length (flat L)
/-- Jobs' row and the queue's block are two. -/
theorem QS.ne {W : World} {base B : Nat} {ag rm ct : Int} {v : Value} {L : List S77} (h : QS W base B ag v rm ct L) : v.ownBlock ≠ some B := by
  intro e
  obtain ⟨cells, hc⟩ := own_typed h.own B e
  rw [h.blk] at hc
  injection hc with hc
  injection hc with _ hc
  cases hc
theorem QS.cell {W : World} {base B : Nat} {ag rm ct : Int} {v : Value} {L : List S77} (h : QS W base B ag v rm ct L) (i : Nat) : W.cell? ⟨B, i, none⟩ = (#[.int .i64 ag, v, .int .i64 rm, .int .i64 ct] : Array Value)[i]? := cell_of_row W B i _ 111 (0, 0) h.blk
set_option maxHeartbeats 4000000 in
set_option maxRecDepth 100000 in
theorem len_calls {W : World} {base B : Nat} {ag rm ct : Int} {v : Value} {L : List S77} (h : QS W base B ag v rm ct L) :
    Calls Try.prog 72 #[.pointer (some ⟨B, 0, none⟩)] W fun e w' => e = .returned (.int .i64 (L.length : Int)) ∧ ∃ n, w' = W.drewN n := by
  have c1 : W.cell? ⟨B, 1, none⟩ = some v := h.cell 1
  obtain ⟨A, c, hv, _⟩ := Kd.R_reads (R_of_own h.own)
  subst hv
  go_enter Try.func72, Try.ntmps72
  go_wp2
  go_ret
  exact ⟨rfl, 0, rfl⟩
set_option maxHeartbeats 4000000 in
set_option maxRecDepth 100000 in
theorem less_calls {W : World} {base B : Nat} {ag rm ct : Int} {v : Value} {L : List S77} (h : QS W base B ag v rm ct L) (i k : Nat) (hi : i < L.length) (hk : k < L.length) (r : Bool) (hr : turn_Less.f ag (rd_T77 L i).f0 (rd_T77 L i).f1 (rd_T77 L i).f2 (rd_T77 L k).f0 (rd_T77 L k).f1 (rd_T77 L k).f2 = some r) :
    Calls Try.prog 120 #[.pointer (some ⟨B, 0, none⟩), .int .i64 i, .int .i64 k] W fun e w' => e = .returned (.bool r) ∧ Below W.heap.size W w' := by
  have c0 : W.cell? ⟨B, 0, none⟩ = some (.int .i64 ag) := h.cell 0
  have c1 : W.cell? ⟨B, 1, none⟩ = some v := h.cell 1
  obtain ⟨A, c, hv, _, hC⟩ := Kd.R_reads (R_of_own h.own)
  subst hv
  obtain ⟨ad, e1, hx0, hx1, hx2⟩ := at_T77 hC (i : Int) (by omega) (by omega)
  subst e1
  obtain ⟨ad', e2, hy0, hy1, hy2⟩ := at_T77 hC (k : Int) (by omega) (by omega)
  cases e2
  rw [Int.toNat_natCast] at hx0 hx1 hx2 hy0 hy1 hy2
  have hi' : (i : Int) < (L.length : Int) := by omega
  have hk' : (k : Int) < (L.length : Int) := by omega
  go_enter Try.func120, Try.ntmps120
  go_wp2
  go_still_tail 18, (by kernel_rfl)
  change wpList _ _ _ _ _ W.drew
  have hb : Below W.heap.size W W.drew := below_drew1 (Below.refl _ _)
  generalize W.drew = W1 at hb ⊢
  go_wp2_with (go_at_call 69; refine (turn_Less.calls _ _ _ _ _ _ _ r _ hr).mono ?_; rintro e w7 ⟨rfl, hb7⟩)
  go_ret
  exact ⟨rfl, below_step hb hb7⟩
theorem enc_len (x : S77) : (enc x).length = 3 := rfl
theorem enc_one (x : S77) : ∀ q ∈ enc x, q.oneCell' = true := by
  intro q hq
  simp only [enc, List.mem_cons, List.not_mem_nil, or_false] at hq
  rcases hq with rfl | rfl | rfl <;> rfl
/-- A store of a job's three cells, as a step. -/
theorem store_step {ops : Array Oper} {o : Oper} {a : Act} {Q : Exit → Act → World → Prop} {K : Act → World → Prop} {W : World} {g off : Nat} {cur : Array Value} (hw : Region.wanted o (yielded ops a.tmps) = true) (t : TypeId) (p x : Operand) (ho : o.op = .store t p x) (hd : o.dst = none)
    (hp : a.eval p = .pointer (some ⟨g, off, none⟩)) (u : Value) (seg : List Value) (hx : a.eval x = u) (hh : W.heap[g]? = some (.cells cur 77 (0, 0))) (hu : u.cells.toList = seg) (ht : (Try.prog.info? t).map (·.size) = some seg.length) (hfit : off + seg.length ≤ cur.size) (h1 : ∀ q ∈ seg, q.oneCell' = true) (h : K a (W.setCells g off seg)) :
    if Region.wanted o (yielded ops a.tmps) = true then Oper.wp Try.prog o a W K Q else K (a.put none undef) W := by
  rw [if_pos hw]
  have hrun := run_store_run t u seg hh hu ht hfit h1
  unfold Oper.wp execOp
  simp only [ho, hp, hx, Sem.run_bind, Sem.run_pure, Result.andThen_ok, hrun]
  show K (a.put o.dst undef) _
  rw [hd]
  exact h
theorem QS.of_row {W W1 : World} {base B : Nat} {ag rm ct : Int} {v v1 : Value} {L M : List S77} (h : QS W base B ag v rm ct L) (hF : W1.heap[B]? = some (.cells #[.int .i64 ag, v1, .int .i64 rm, .int .i64 ct] 111 (0, 0))) (hR : Kd.R k77 77 W1 base (fun _ => True) v1 M) : QS W1 base B ag v1 rm ct M := ⟨hF, h.lb, own_of_R hR⟩
theorem swap_world {W : World} {base B g cap n : Nat} {ag rm ct : Int} {L : List S77} (h : QS W base B ag (.slice (some ⟨g, 0, none⟩) n cap) rm ct L) {i k : Nat} (hi : i < L.length) (hk : k < L.length) (hgB : g ≠ B) :
    QS ((W.setCells g (i * 3) (enc (rd_T77 L k))).setCells g (k * 3) (enc (rd_T77 L i))) base B ag (.slice (some ⟨g, 0, none⟩) n cap) rm ct (sw z77 L i k) ∧ Fr (QF B (.slice (some ⟨g, 0, none⟩) n cap)) W ((W.setCells g (i * 3) (enc (rd_T77 L k))).setCells g (k * 3) (enc (rd_T77 L i))) := by
  have hR := R_of_own h.own
  have hn := (Kd.R_reads' hR).1
  obtain ⟨ad, c, e1, hcl, hK, hc⟩ := Kd.C_get (Kd.R_reads' hR).2.2 z77 (i : Int) (by omega) (by omega)
  injection e1 with e1
  subst e1
  have hcl' : c.length = 3 := hcl
  obtain ⟨h1, g1⟩ := Kd.R_seg (okp := fun _ => False) hR (i : Int) (by omega) (by omega) (c := c) (j := 0) (seg := enc (rd_T77 L k)) (x' := rd_T77 L k) hcl (fun j u hu => by have := hc j u hu; rwa [Addr.add_lit, Nat.zero_add] at this) (by simp [enc, Kd.iso, Kd.pair, Kd.int, Kd.scalar, k77])
    (by rw [List.take_zero, List.nil_append, List.drop_eq_nil_of_le (by simp [enc, hcl']), List.append_nil]; exact k77_mkM _ _ _ _) (fun _ h => h.elim)
  have hl2 : (L.set (i : Int).toNat (rd_T77 L k)).length = L.length := List.length_set
  obtain ⟨ad2, c2, e2, hcl2, hK2, hc2⟩ := Kd.C_get (Kd.R_reads' h1).2.2 z77 (k : Int) (by omega) (by omega)
  injection e2 with e2
  subst e2
  have hcl2' : c2.length = 3 := hcl2
  obtain ⟨h2, g2⟩ := Kd.R_seg (okp := fun _ => False) h1 (k : Int) (by omega) (by omega) (c := c2) (j := 0) (seg := enc (rd_T77 L i)) (x' := rd_T77 L i) hcl2 (fun j u hu => by have := hc2 j u hu; rwa [Addr.add_lit, Nat.zero_add] at this) (by simp [enc, Kd.iso, Kd.pair, Kd.int, Kd.scalar, k77])
    (by rw [List.take_zero, List.nil_append, List.drop_eq_nil_of_le (by simp [enc, hcl2']), List.append_nil]; exact k77_mkM _ _ _ _) (fun _ h => h.elim)
  have eW : ((W.setCells g ((i : Int).toNat * k77.sz + 0) (enc (rd_T77 L k))).setCells g ((k : Int).toNat * k77.sz + 0) (enc (rd_T77 L i))) = ((W.setCells g (i * 3) (enc (rd_T77 L k))).setCells g (k * 3) (enc (rd_T77 L i))) := by
    rw [Int.toNat_natCast, Int.toNat_natCast]
    rfl
  rw [eW] at h2 g2
  have gg := World.grownBy.trans g1 g2
  have eL : (L.set (i : Int).toNat (rd_T77 L k)).set (k : Int).toNat (rd_T77 L i) = sw z77 L i k := by
    rw [Int.toNat_natCast, Int.toNat_natCast]
    unfold sw Heap.g rd_T77
    rw [Int.toNat_natCast, Int.toNat_natCast]
  rw [eL] at h2
  generalize ((W.setCells g (i * 3) (enc (rd_T77 L k))).setCells g (k * 3) (enc (rd_T77 L i))) = X at h2 gg ⊢
  have hBlt : B < W.heap.size := (Array.getElem?_eq_some_iff.1 h.blk).1
  exact ⟨h.of_row ((gg.block B hBlt (by simp; exact Ne.symm hgB)).trans h.blk) h2, Fr.of_grown gg (fun b e => by injection e with e; subst e; exact .inr rfl)⟩
set_option maxHeartbeats 4000000 in
set_option maxRecDepth 100000 in
theorem swap_calls {W : World} {base B : Nat} {ag rm ct : Int} {v : Value} {L : List S77} (h : QS W base B ag v rm ct L) (i k : Nat) (hi : i < L.length) (hk : k < L.length) :
    Calls Try.prog 123 #[.pointer (some ⟨B, 0, none⟩), .int .i64 i, .int .i64 k] W fun e w' => e = .returned (.tuple #[]) ∧ QS w' base B ag v rm ct (sw z77 L i k) ∧ Fr (QF B v) W w' := by
  have c1 : W.cell? ⟨B, 1, none⟩ = some v := h.cell 1
  have hown := h.own
  rcases hown.2 with ⟨_, h0⟩ | ⟨g, cap, cells, rfl, hgb, hgc, hcl, hcm, hcs, _⟩
  · omega
  have hC := (Kd.R_reads' (R_of_own h.own)).2.2
  have hgB : g ≠ B := fun e => h.ne (by simp [Value.ownBlock, e])
  obtain ⟨ad, e1, hx0, hx1, hx2⟩ := at_T77 hC (i : Int) (by omega) (by omega)
  injection e1 with e1
  subst e1
  obtain ⟨ad', e2, hy0, hy1, hy2⟩ := at_T77 hC (k : Int) (by omega) (by omega)
  injection e2 with e2
  subst e2
  rw [Int.toNat_natCast, Addr.add_lit, Nat.zero_add] at hx0 hx1 hx2 hy0 hy1 hy2
  have hi' : (i : Int) < (L.length : Int) := by omega
  have hk' : (k : Int) < (L.length : Int) := by omega
  have hgc' : W.drew.heap[g]? = some (.cells cells 77 (0, 0)) := hgc
  have hfin := swap_world (W := W.drew) ⟨h.blk, h.lb, hown⟩ hi hk hgB
  have HF := Aside0.mk hfin
  have H := Aside0.mk h
  clear hfin h hown hC hcm
  go_enter Try.func123, Try.ntmps123
  go_wp2
  refine start_ (n := 28) (S := fun w' => w'.cell? ⟨B, 1, none⟩ = some (.slice (some ⟨g, 0, none⟩) L.length cap) ∧ w'.cell? ⟨g, i * 3, none⟩ = some (.int .i64 (rd_T77 L i).f0) ∧ w'.cell? ⟨g, i * 3 + 1, none⟩ = some (.int .i64 (rd_T77 L i).f1) ∧ w'.cell? ⟨g, i * 3 + 2, none⟩ = some (.int .i64 (rd_T77 L i).f2) ∧ w'.cell? ⟨g, k * 3, none⟩ = some (.int .i64 (rd_T77 L k).f0) ∧ w'.cell? ⟨g, k * 3 + 1, none⟩ = some (.int .i64 (rd_T77 L k).f1) ∧ w'.cell? ⟨g, k * 3 + 2, none⟩ = some (.int .i64 (rd_T77 L k).f2)) (ds := [25, 27]) #[false, false, false, false, false, false, false, false, false, false, false, false, false, false, false, false, false, false, false, false, false, false, false, false, false, false, false, false] (by kernel_rfl) rfl rfl ⟨c1, hx0, hx1, hx2, hy0, hy1, hy2⟩ (fun hHeld => ?_)
  refine pure_ (i := 0) (N := some 6) (v := ?_) (a' := ?_) #[true, false, false, false, false, false, false, false, false, false, false, false, false, false, false, false, false, false, false, false, false, false, false, false, false, false, false, false] rfl rfl (by kernel_rfl) (fun _ _ _ h => h) (Or.inl ⟨by rfl, ?_⟩) ?_ ?_
  rotate_left
  · intro w'
    go_simp
    with_reducible rfl
  rotate_left
  · simp only [Act.put, List.setIfInBounds_toArray, List.set_cons_zero, List.set_cons_succ]
    rfl
  refine pure_ (i := 1) (N := some 7) (v := ?_) (a' := ?_) #[true, true, false, false, false, false, false, false, false, false, false, false, false, false, false, false, false, false, false, false, false, false, false, false, false, false, false, false] rfl rfl (by kernel_rfl) (fun _ _ _ h => h) (Or.inl ⟨by rfl, ?_⟩) ?_ ?_
  rotate_left
  · intro w'
    go_simp
    with_reducible rfl
  rotate_left
  · simp only [Act.put, List.setIfInBounds_toArray, List.set_cons_zero, List.set_cons_succ]
    rfl
  refine pure_ (i := 2) (N := some 8) (v := ?_) (a' := ?_) #[true, true, true, false, false, false, false, false, false, false, false, false, false, false, false, false, false, false, false, false, false, false, false, false, false, false, false, false] rfl rfl (by kernel_rfl) (fun _ _ _ h => h) (Or.inl ⟨by rfl, ?_⟩) ?_ ?_
  rotate_left
  · intro w'
    go_simp
    with_reducible rfl
  rotate_left
  · simp only [Act.put, List.setIfInBounds_toArray, List.set_cons_zero, List.set_cons_succ]
    rfl
  refine take_ (i := 3) (N := some 9) (v := ?_) (a' := ?_) #[true, true, true, true, false, false, false, false, false, false, false, false, false, false, false, false, false, false, false, false, false, false, false, false, false, false, false, false] rfl rfl (by kernel_rfl) (fun _ _ _ h => h) (Or.inl ⟨by rfl, ?_⟩) hHeld ?_ ?_
  rotate_left
  · rintro w' ⟨s0, s1, s2, s3, s4, s5, s6⟩
    go_simp
    with_reducible rfl
  rotate_left
  · simp only [Act.put, List.setIfInBounds_toArray, List.set_cons_zero, List.set_cons_succ]
    rfl
  refine pure_ (i := 4) (N := some 10) (v := ?_) (a' := ?_) #[true, true, true, true, true, false, false, false, false, false, false, false, false, false, false, false, false, false, false, false, false, false, false, false, false, false, false, false] rfl rfl (by kernel_rfl) (fun _ _ _ h => h) (Or.inl ⟨by rfl, ?_⟩) ?_ ?_
  rotate_left
  · intro w'
    go_simp
    with_reducible rfl
  rotate_left
  · simp only [Act.put, List.setIfInBounds_toArray, List.set_cons_zero, List.set_cons_succ]
    rfl
  refine pure_ (i := 5) (N := some 11) (v := ?_) (a' := ?_) #[true, true, true, true, true, true, false, false, false, false, false, false, false, false, false, false, false, false, false, false, false, false, false, false, false, false, false, false] rfl rfl (by kernel_rfl) (fun _ _ _ h => h) (Or.inl ⟨by rfl, ?_⟩) ?_ ?_
  rotate_left
  · intro w'
    go_simp
    with_reducible rfl
  rotate_left
  · simp only [Act.put, List.setIfInBounds_toArray, List.set_cons_zero, List.set_cons_succ]
    rfl
  refine pure_ (i := 6) (N := some 12) (v := ?_) (a' := ?_) #[true, true, true, true, true, true, true, false, false, false, false, false, false, false, false, false, false, false, false, false, false, false, false, false, false, false, false, false] rfl rfl (by kernel_rfl) (fun _ _ _ h => h) (Or.inl ⟨by rfl, ?_⟩) ?_ ?_
  rotate_left
  · intro w'
    go_simp
    with_reducible rfl
  rotate_left
  · simp only [Act.put, List.setIfInBounds_toArray, List.set_cons_zero, List.set_cons_succ]
    rfl
  refine pure_ (i := 7) (N := some 13) (v := ?_) (a' := ?_) #[true, true, true, true, true, true, true, true, false, false, false, false, false, false, false, false, false, false, false, false, false, false, false, false, false, false, false, false] rfl rfl (by kernel_rfl) (fun _ _ _ h => h) (Or.inl ⟨by rfl, ?_⟩) ?_ ?_
  rotate_left
  · intro w'
    go_simp
    with_reducible rfl
  rotate_left
  · simp only [Act.put, List.setIfInBounds_toArray, List.set_cons_zero, List.set_cons_succ]
    rfl
  refine take_ (i := 8) (N := some 14) (v := ?_) (a' := ?_) #[true, true, true, true, true, true, true, true, true, false, false, false, false, false, false, false, false, false, false, false, false, false, false, false, false, false, false, false] rfl rfl (by kernel_rfl) (fun _ _ _ h => h) (Or.inl ⟨by rfl, ?_⟩) hHeld ?_ ?_
  rotate_left
  · rintro w' ⟨s0, s1, s2, s3, s4, s5, s6⟩
    go_simp
    with_reducible rfl
  rotate_left
  · simp only [Act.put, List.setIfInBounds_toArray, List.set_cons_zero, List.set_cons_succ]
    rfl
  refine pure_ (i := 9) (N := some 15) (v := ?_) (a' := ?_) #[true, true, true, true, true, true, true, true, true, true, false, false, false, false, false, false, false, false, false, false, false, false, false, false, false, false, false, false] rfl rfl (by kernel_rfl) (fun _ _ _ h => h) (Or.inl ⟨by rfl, ?_⟩) ?_ ?_
  rotate_left
  · intro w'
    go_simp
    with_reducible rfl
  rotate_left
  · simp only [Act.put, List.setIfInBounds_toArray, List.set_cons_zero, List.set_cons_succ]
    rfl
  refine pure_ (i := 10) (N := some 16) (v := ?_) (a' := ?_) #[true, true, true, true, true, true, true, true, true, true, true, false, false, false, false, false, false, false, false, false, false, false, false, false, false, false, false, false] rfl rfl (by kernel_rfl) (fun _ _ _ h => h) (Or.inl ⟨by rfl, ?_⟩) ?_ ?_
  rotate_left
  · intro w'
    go_simp
    with_reducible rfl
  rotate_left
  · simp only [Act.put, List.setIfInBounds_toArray, List.set_cons_zero, List.set_cons_succ]
    rfl
  refine pure_ (i := 11) (N := some 17) (v := ?_) (a' := ?_) #[true, true, true, true, true, true, true, true, true, true, true, true, false, false, false, false, false, false, false, false, false, false, false, false, false, false, false, false] rfl rfl (by kernel_rfl) (fun _ _ _ h => h) (Or.inl ⟨by rfl, ?_⟩) ?_ ?_
  rotate_left
  · intro w'
    go_simp
    with_reducible rfl
  rotate_left
  · simp only [Act.put, List.setIfInBounds_toArray, List.set_cons_zero, List.set_cons_succ]
    rfl
  refine pure_ (i := 12) (N := some 18) (v := ?_) (a' := ?_) #[true, true, true, true, true, true, true, true, true, true, true, true, true, false, false, false, false, false, false, false, false, false, false, false, false, false, false, false] rfl rfl (by kernel_rfl) (fun _ _ _ h => h) (Or.inl ⟨by rfl, ?_⟩) ?_ ?_
  rotate_left
  · intro w'
    go_simp
    with_reducible rfl
  rotate_left
  · simp only [Act.put, List.setIfInBounds_toArray, List.set_cons_zero, List.set_cons_succ]
    rfl
  refine take_ (i := 13) (N := some 19) (v := ?_) (a' := ?_) #[true, true, true, true, true, true, true, true, true, true, true, true, true, true, false, false, false, false, false, false, false, false, false, false, false, false, false, false] rfl rfl (by kernel_rfl) (fun _ _ _ h => h) (Or.inl ⟨by rfl, ?_⟩) hHeld ?_ ?_
  rotate_left
  · rintro w' ⟨s0, s1, s2, s3, s4, s5, s6⟩
    go_simp
    with_reducible rfl
  rotate_left
  · simp only [Act.put, List.setIfInBounds_toArray, List.set_cons_zero, List.set_cons_succ]
    rfl
  refine pure_ (i := 14) (N := some 20) (v := ?_) (a' := ?_) #[true, true, true, true, true, true, true, true, true, true, true, true, true, true, true, false, false, false, false, false, false, false, false, false, false, false, false, false] rfl rfl (by kernel_rfl) (fun _ _ _ h => h) (Or.inl ⟨by rfl, ?_⟩) ?_ ?_
  rotate_left
  · intro w'
    go_simp
    with_reducible rfl
  rotate_left
  · simp only [Act.put, List.setIfInBounds_toArray, List.set_cons_zero, List.set_cons_succ]
    rfl
  refine pure_ (i := 15) (N := some 21) (v := ?_) (a' := ?_) #[true, true, true, true, true, true, true, true, true, true, true, true, true, true, true, true, false, false, false, false, false, false, false, false, false, false, false, false] rfl rfl (by kernel_rfl) (fun _ _ _ h => h) (Or.inl ⟨by rfl, ?_⟩) ?_ ?_
  rotate_left
  · intro w'
    go_simp
    with_reducible rfl
  rotate_left
  · simp only [Act.put, List.setIfInBounds_toArray, List.set_cons_zero, List.set_cons_succ]
    rfl
  refine take_ (i := 16) (N := some 22) (v := ?_) (a' := ?_) #[true, true, true, true, true, true, true, true, true, true, true, true, true, true, true, true, true, false, false, false, false, false, false, false, false, false, false, false] rfl rfl (by kernel_rfl) (fun _ _ _ h => h) (Or.inl ⟨by rfl, ?_⟩) hHeld ?_ ?_
  rotate_left
  · rintro w' ⟨s0, s1, s2, s3, s4, s5, s6⟩
    go_simp
    with_reducible rfl
  rotate_left
  · simp only [Act.put, List.setIfInBounds_toArray, List.set_cons_zero, List.set_cons_succ]
    rfl
  refine pure_ (i := 17) (N := some 23) (v := ?_) (a' := ?_) #[true, true, true, true, true, true, true, true, true, true, true, true, true, true, true, true, true, true, false, false, false, false, false, false, false, false, false, false] rfl rfl (by kernel_rfl) (fun _ _ _ h => h) (Or.inl ⟨by rfl, ?_⟩) ?_ ?_
  rotate_left
  · intro w'
    go_simp
    with_reducible rfl
  rotate_left
  · simp only [Act.put, List.setIfInBounds_toArray, List.set_cons_zero, List.set_cons_succ]
    rfl
  refine pure_ (i := 18) (N := some 24) (v := ?_) (a' := ?_) #[true, true, true, true, true, true, true, true, true, true, true, true, true, true, true, true, true, true, true, false, false, false, false, false, false, false, false, false] rfl rfl (by kernel_rfl) (fun _ _ _ h => h) (Or.inl ⟨by rfl, ?_⟩) ?_ ?_
  rotate_left
  · intro w'
    go_simp
    with_reducible rfl
  rotate_left
  · simp only [Act.put, List.setIfInBounds_toArray, List.set_cons_zero, List.set_cons_succ]
    rfl
  refine pure_ (i := 19) (N := some 25) (v := ?_) (a' := ?_) #[true, true, true, true, true, true, true, true, true, true, true, true, true, true, true, true, true, true, true, true, false, false, false, false, false, false, false, false] rfl rfl (by kernel_rfl) (fun _ _ _ h => h) (Or.inl ⟨by rfl, ?_⟩) ?_ ?_
  rotate_left
  · intro w'
    go_simp
    with_reducible rfl
  rotate_left
  · simp only [Act.put, List.setIfInBounds_toArray, List.set_cons_zero, List.set_cons_succ]
    rfl
  refine take_ (i := 20) (N := some 26) (v := ?_) (a' := ?_) #[true, true, true, true, true, true, true, true, true, true, true, true, true, true, true, true, true, true, true, true, true, false, false, false, false, false, false, false] rfl rfl (by kernel_rfl) (fun _ _ _ h => h) (Or.inl ⟨by rfl, ?_⟩) hHeld ?_ ?_
  rotate_left
  · rintro w' ⟨s0, s1, s2, s3, s4, s5, s6⟩
    go_simp
    with_reducible rfl
  rotate_left
  · simp only [Act.put, List.setIfInBounds_toArray, List.set_cons_zero, List.set_cons_succ]
    rfl
  refine pure_ (i := 21) (N := some 27) (v := ?_) (a' := ?_) #[true, true, true, true, true, true, true, true, true, true, true, true, true, true, true, true, true, true, true, true, true, true, false, false, false, false, false, false] rfl rfl (by kernel_rfl) (fun _ _ _ h => h) (Or.inl ⟨by rfl, ?_⟩) ?_ ?_
  rotate_left
  · intro w'
    go_simp
    with_reducible rfl
  rotate_left
  · simp only [Act.put, List.setIfInBounds_toArray, List.set_cons_zero, List.set_cons_succ]
    rfl
  refine pure_ (i := 22) (N := some 28) (v := ?_) (a' := ?_) #[true, true, true, true, true, true, true, true, true, true, true, true, true, true, true, true, true, true, true, true, true, true, true, false, false, false, false, false] rfl rfl (by kernel_rfl) (fun _ _ _ h => h) (Or.inl ⟨by rfl, ?_⟩) ?_ ?_
  rotate_left
  · intro w'
    go_simp
    with_reducible rfl
  rotate_left
  · simp only [Act.put, List.setIfInBounds_toArray, List.set_cons_zero, List.set_cons_succ]
    rfl
  refine take_ (i := 23) (N := some 29) (v := ?_) (a' := ?_) #[true, true, true, true, true, true, true, true, true, true, true, true, true, true, true, true, true, true, true, true, true, true, true, true, false, false, false, false] rfl rfl (by kernel_rfl) (fun _ _ _ h => h) (Or.inl ⟨by rfl, ?_⟩) hHeld ?_ ?_
  rotate_left
  · rintro w' ⟨s0, s1, s2, s3, s4, s5, s6⟩
    go_simp
    with_reducible rfl
  rotate_left
  · simp only [Act.put, List.setIfInBounds_toArray, List.set_cons_zero, List.set_cons_succ]
    rfl
  refine pure_ (i := 24) (N := some 30) (v := ?_) (a' := ?_) #[true, true, true, true, true, true, true, true, true, true, true, true, true, true, true, true, true, true, true, true, true, true, true, true, true, false, false, false] rfl rfl (by kernel_rfl) (fun _ _ _ h => h) (Or.inl ⟨by rfl, ?_⟩) ?_ ?_
  rotate_left
  · intro w'
    go_simp
    with_reducible rfl
  rotate_left
  · simp only [Act.put, List.setIfInBounds_toArray, List.set_cons_zero, List.set_cons_succ]
    rfl
  refine last_ (i := 25) (N := none) #[true, true, true, true, true, true, true, true, true, true, true, true, true, true, true, true, true, true, true, true, true, true, true, true, true, true, false, false] rfl rfl (by kernel_rfl) (by decide) (fun K hK => ?_)
  refine store_step (g := g) (off := i * 3) (cur := cells) (by rfl) 77 (.tmp 30) (.tmp 22) (by rfl) (by rfl) (by rfl) (.agg #[.int .i64 (rd_T77 L k).f0, .int .i64 (rd_T77 L k).f1, .int .i64 (rd_T77 L k).f2]) (enc (rd_T77 L k)) (by rfl) hgc' rfl rfl (by rw [enc_len]; omega) (enc_one _) ?_
  refine hK.out _ _ ?_
  clear hK K
  obtain ⟨cells2, hgc2, hsz2, _⟩ := setCells_row (enc (rd_T77 L k)) (i * 3) W.drew cells hgc' (by rw [enc_len]; omega)
  refine pure_ (i := 26) (N := some 31) (v := ?_) (a' := ?_) #[true, true, true, true, true, true, true, true, true, true, true, true, true, true, true, true, true, true, true, true, true, true, true, true, true, true, true, false] rfl rfl (by kernel_rfl) (fun _ _ _ h => h) (Or.inl ⟨by rfl, ?_⟩) ?_ ?_
  rotate_left
  · intro w'
    go_simp
    with_reducible rfl
  rotate_left
  · simp only [Act.put, List.setIfInBounds_toArray, List.set_cons_zero, List.set_cons_succ]
    rfl
  refine last_ (i := 27) (N := none) #[true, true, true, true, true, true, true, true, true, true, true, true, true, true, true, true, true, true, true, true, true, true, true, true, true, true, true, true] rfl rfl (by kernel_rfl) (by decide) (fun K hK => ?_)
  refine store_step (g := g) (off := k * 3) (cur := cells2) (by rfl) 77 (.tmp 31) (.tmp 29) (by rfl) (by rfl) (by rfl) (.agg #[.int .i64 (rd_T77 L i).f0, .int .i64 (rd_T77 L i).f1, .int .i64 (rd_T77 L i).f2]) (enc (rd_T77 L i)) (by rfl) hgc2 rfl rfl (by rw [enc_len]; omega) (enc_one _) ?_
  refine hK.out _ _ ?_
  clear hK K
  refine done_ (by kernel_rfl) ?_
  go_end0
  exact ⟨rfl, HF.out.1, Fr.then_ (Fr.of_below (F := QF B (.slice (some ⟨g, 0, none⟩) L.length cap)) (below_drew1 (Below.refl _ _))) HF.out.2 (fun _ h => .inl h)⟩
end Go.Proofs.Ytfkebbkfmchnaaa.Ln

namespace Go.Proofs.Ytfkebbkfmchnaaa.Ln
open Go.RowKit Go.Proofs.Ytfkebbkfmchnaaa.PBase Go.Proofs.Ytfkebbkfmchnaaa.Cat Go.Proofs.Ytfkebbkfmchnaaa.Heap Go.Proofs.YtfkebbkfmchnaaaW.PrintWords Go.Proofs.YtfkebbkfmchnaaaW.PrintLast Go.Proofs.YtfkebbkfmchnaaaW.PrintMore
theorem ta (W : World) (a b c : Int) : (Instr.typeAssert (.iface 77 (.agg #[.int .i64 a, .int .i64 b, .int .i64 c])) 20 77 true).run Try.prog W = .ok (.tuple #[.agg #[.int .i64 a, .int .i64 b, .int .i64 c], .bool true]) W := by kernel_rfl
/-- The header stored anew. -/
theorem QS.put {W : World} {base B : Nat} {ag rm ct : Int} {v v' : Value} {L M : List S77} (h : QS W base B ag v rm ct L) (hR : Kd.R k77 77 W base (fun _ => True) v' M) : QS (W.setCell ⟨B, 1, none⟩ v') base B ag v' rm ct M :=
  h.of_row (blk_set h.blk 1 v') (Kd.R_set hR h.blk (by decide) 1 v')
theorem Fr.put {W : World} {B j : Nat} {v u : Value} : Fr (QF B v) W (W.setCell ⟨B, j, none⟩ u) := ⟨rfl, rfl, rfl, by simp [World.setCell], fun k _ hn => Below.heap_setCell W ⟨B, j, none⟩ u k (fun e => hn (.inl e))⟩
theorem QS.step {W W1 : World} {base B : Nat} {ag rm ct : Int} {v : Value} {L : List S77} (h : QS W base B ag v rm ct L) (hb : Below W.heap.size W W1) : QS W1 base B ag v rm ct L :=
  h.of_row ((hb.block B (Array.getElem?_eq_some_iff.1 h.blk).1).trans h.blk) (Kd.R_below (R_of_own h.own) hb)
theorem QS.lt {W : World} {base B : Nat} {ag rm ct : Int} {v : Value} {L : List S77} (h : QS W base B ag v rm ct L) : B < W.heap.size := (Array.getElem?_eq_some_iff.1 h.blk).1
theorem QS.base_le {W : World} {base B : Nat} {ag rm ct : Int} {v : Value} {L : List S77} (h : QS W base B ag v rm ct L) : base ≤ W.heap.size := Nat.le_trans h.lb (Nat.le_of_lt h.lt)
theorem event_app {ops : Array Oper} {o : Oper} {a : Act} {Q : Exit → Act → World → Prop} {K : Act → World → Prop} {W w1 : World} {v1 : Value} (hw : Region.wanted o (yielded ops a.tmps) = true) (s x : Operand) (ho : o.op = .call { callee := .builtin .append, args := #[s, x], argTypes := #[63, 63] }) (u v : Value) (hs : a.eval s = v) (hx : a.eval x = u)
    (hr : (Builtin.append_ #[63, 63] o.type #[v, u]).run Try.prog W = .ok v1 w1) (h : K (a.put o.dst v1) w1) : if Region.wanted o (yielded ops a.tmps) = true then Oper.wp Try.prog o a W K Q else K (a.put o.dst undef) W := by
  refine event_step hw ?_ h
  unfold execOp
  simp only [ho, resolve, invoke, builtin, Sem.run_bind, Sem.run_pure, Result.andThen_ok, List.map_toArray, List.map_cons, List.map_nil, hs, hx, hr]
/-- An append to the row: what is the queue's besides stays. -/
theorem app_run {W : World} {base B : Nat} {ag rm ct : Int} {v : Value} {L : List S77} (h : QS W base B ag v rm ct L) (x : S77) (ty : TypeId) (hl : L.length ≤ 1000000) (ad : Addr) (c : Nat) (hx : Kd.C k77 W (some ad) 1 [x]) :
    ∃ v1 w1, (Builtin.append_ #[63, 63] ty #[v, .slice (some ad) 1 c]).run Try.prog W = .ok v1 w1 ∧ w1.heap[B]? = some (.cells #[.int .i64 ag, v, .int .i64 rm, .int .i64 ct] 111 (0, 0)) ∧ Kd.R k77 77 w1 base (fun _ => True) v1 (L ++ [x]) ∧ Fr (QF B v) W w1 ∧ At W v v1 := by
  obtain ⟨i0, hi, hzz⟩ := Option.map_eq_some_iff.1 Cat.info77
  simp only [Prod.mk.injEq] at hzz
  obtain ⟨hz0, hz1, hz2⟩ := hzz
  obtain ⟨v1, w1, hrun, h2, hg, _, hat⟩ := run_append_own_at (P := Try.prog) W base 63 ty 77 i0 _ 3 24 Try.underlying63 hi hz0 hz1 hz2 rfl (by decide) v L.length (flat L) h.own ad 1 c (flat [x]) (by rw [flat_len]; rfl) (C_cells hx) flat_one (by simp only [maxLen]; omega) (by omega) h.base_le
  rw [← flat_append] at h2
  refine ⟨v1, w1, hrun, (hg.block B h.lt (fun e => h.ne e.symm)).trans h.blk, R_of_own (by rw [List.length_append]; exact h2), Fr.of_grown hg (fun k e => .inr e), ?_⟩
  rcases hat with hat | hat
  · exact .inl hat
  · exact .inr ⟨_, hat, Nat.le_refl _⟩
set_option maxHeartbeats 4000000 in
set_option maxRecDepth 100000 in
theorem push_calls {W : World} {base B : Nat} {ag rm ct : Int} {v : Value} {L : List S77} (h : QS W base B ag v rm ct L) (x : S77) (hl : L.length ≤ 1000000) :
    Calls Try.prog 122 #[.pointer (some ⟨B, 0, none⟩), .iface 77 (.agg #[.int .i64 x.f0, .int .i64 x.f1, .int .i64 x.f2])] W fun e w' => e = .returned (.tuple #[]) ∧ ∃ v', QS w' base B ag v' rm ct (L ++ [x]) ∧ Fr (QF B v) W w' ∧ At W v v' := by
  have c1 : W.cell? ⟨B, 1, none⟩ = some v := h.cell 1
  have hta := fun W => ta W x.f0 x.f1 x.f2
  have HQ0 := Aside0.mk h
  have hlt := h.lt
  go_enter Try.func122, Try.ntmps122
  go_wp2
  have hb1 : Below W.heap.size W (W.alloc (Obj.cells #[Value.int IntKind.i64 x.f0, Value.int IntKind.i64 x.f1, Value.int IntKind.i64 x.f2] 77)) := below_alloc (Below.refl _ _) _
  have hy0 : (W.alloc (Obj.cells #[Value.int IntKind.i64 x.f0, Value.int IntKind.i64 x.f1, Value.int IntKind.i64 x.f2] 77)).cell? ⟨W.heap.size, 0, none⟩ = some (.int .i64 x.f0) := by simp
  have hy1 : (W.alloc (Obj.cells #[Value.int IntKind.i64 x.f0, Value.int IntKind.i64 x.f1, Value.int IntKind.i64 x.f2] 77)).cell? ⟨W.heap.size, 1, none⟩ = some (.int .i64 x.f1) := by simp
  have hy2 : (W.alloc (Obj.cells #[Value.int IntKind.i64 x.f0, Value.int IntKind.i64 x.f1, Value.int IntKind.i64 x.f2] 77)).cell? ⟨W.heap.size, 2, none⟩ = some (.int .i64 x.f2) := by simp
  have c1' := (hb1.cell (p := ⟨B, 1, none⟩) hlt).trans c1
  generalize W.alloc (Obj.cells #[Value.int IntKind.i64 x.f0, Value.int IntKind.i64 x.f1, Value.int IntKind.i64 x.f2] 77) = W1 at hb1 hy0 hy1 hy2 c1' ⊢
  clear hta c1
  refine start_ (n := 11) (S := fun w' => w'.cell? ⟨B, 1, none⟩ = some v ∧ w'.cell? ⟨W.heap.size, 0, none⟩ = some (.int .i64 x.f0) ∧ w'.cell? ⟨W.heap.size, 1, none⟩ = some (.int .i64 x.f1) ∧ w'.cell? ⟨W.heap.size, 2, none⟩ = some (.int .i64 x.f2)) (ds := [10]) #[false, false, false, false, false, false, false, false, false, false, false] (by kernel_rfl) rfl rfl ⟨c1', hy0, hy1, hy2⟩ (fun hHeld => ?_)
  have hb2 := below_drew1 hb1
  have HQ := Aside0.mk (HQ0.out.step hb2)
  have HQ0' := Aside0.mk hb2
  generalize W1.drew = W2 at hHeld HQ HQ0' ⊢
  clear hb2 hb1 hy0 hy1 hy2 c1'
  have hWlt := World.block_lt_of_cell? W2 _ hHeld.2.1
  have hbA := below_alloc (Below.refl W2.heap.size W2) (.cells #[.int .i64 x.f0, .int .i64 x.f1, .int .i64 x.f2] 77)
  have hWF : ¬ QF B v W.heap.size := by
    rintro (e | e)
    · omega
    · have := own_lt HQ0.out.own _ e
      omega
  refine pure_ (i := 0) (N := some 12) (v := ?_) (a' := ?_) #[true, false, false, false, false, false, false, false, false, false, false] rfl rfl (by kernel_rfl) (fun _ _ _ h => h) (Or.inl ⟨by rfl, ?_⟩) ?_ ?_
  rotate_left
  · intro w'
    go_simp
    with_reducible rfl
  rotate_left
  · simp only [Act.put, List.setIfInBounds_toArray, List.set_cons_zero, List.set_cons_succ]
    rfl
  refine pure_ (i := 1) (N := some 13) (v := ?_) (a' := ?_) #[true, true, false, false, false, false, false, false, false, false, false] rfl rfl (by kernel_rfl) (fun _ _ _ h => h) (Or.inl ⟨by rfl, ?_⟩) ?_ ?_
  rotate_left
  · intro w'
    go_simp
    with_reducible rfl
  rotate_left
  · simp only [Act.put, List.setIfInBounds_toArray, List.set_cons_zero, List.set_cons_succ]
    rfl
  refine pure_ (i := 2) (N := some 14) (v := ?_) (a' := ?_) #[true, true, true, false, false, false, false, false, false, false, false] rfl rfl (by kernel_rfl) (fun _ _ _ h => h) (Or.inl ⟨by rfl, ?_⟩) ?_ ?_
  rotate_left
  · intro w'
    go_simp
    with_reducible rfl
  rotate_left
  · simp only [Act.put, List.setIfInBounds_toArray, List.set_cons_zero, List.set_cons_succ]
    rfl
  refine pure_ (i := 3) (N := some 15) (v := ?_) (a' := ?_) #[true, true, true, true, false, false, false, false, false, false, false] rfl rfl (by kernel_rfl) (fun _ _ _ h => h) (Or.inl ⟨by rfl, ?_⟩) ?_ ?_
  rotate_left
  · intro w'
    go_simp
    with_reducible rfl
  rotate_left
  · simp only [Act.put, List.setIfInBounds_toArray, List.set_cons_zero, List.set_cons_succ]
    rfl
  refine take_ (i := 4) (N := some 16) (v := ?_) (a' := ?_) #[true, true, true, true, true, false, false, false, false, false, false] rfl rfl (by kernel_rfl) (fun _ _ _ h => h) (Or.inl ⟨by rfl, ?_⟩) hHeld ?_ ?_
  rotate_left
  · rintro w' ⟨s0, s1, s2, s3⟩
    go_simp
    with_reducible rfl
  rotate_left
  · simp only [Act.put, List.setIfInBounds_toArray, List.set_cons_zero, List.set_cons_succ]
    rfl
  refine take_ (i := 5) (N := some 17) (v := ?_) (a' := ?_) #[true, true, true, true, true, true, false, false, false, false, false] rfl rfl (by kernel_rfl) (fun _ _ _ h => h) (Or.inl ⟨by rfl, ?_⟩) hHeld ?_ ?_
  rotate_left
  · rintro w' ⟨s0, s1, s2, s3⟩
    go_simp
    with_reducible rfl
  rotate_left
  · simp only [Act.put, List.setIfInBounds_toArray, List.set_cons_zero, List.set_cons_succ]
    rfl
  refine one_ (i := 6) (N := some 18) #[true, true, true, true, true, true, true, false, false, false, false] rfl rfl (by kernel_rfl) (by decide) (fun K hK => ?_)
  refine event_step (v := .slice (some ⟨W2.heap.size, 0, none⟩) 1 1) (w1 := W2.alloc (.cells #[.int .i64 x.f0, .int .i64 x.f1, .int .i64 x.f2] 77)) (by rfl) (by go_simp) ?_
  refine hK.out _ _ ⟨(hbA.cell (p := ⟨B, 1, none⟩) HQ.out.lt).trans hHeld.1, (hbA.cell (p := ⟨W.heap.size, 0, none⟩) hWlt).trans hHeld.2.1, (hbA.cell (p := ⟨W.heap.size, 1, none⟩) hWlt).trans hHeld.2.2.1, (hbA.cell (p := ⟨W.heap.size, 2, none⟩) hWlt).trans hHeld.2.2.2⟩ (fun hHeld => ?_)
  clear hK K
  refine norm_ (a' := ?_) ?_ ?_
  rotate_left
  · show Act.put _ (some 18) _ = _
    simp only [Act.put, List.setIfInBounds_toArray, List.set_cons_zero, List.set_cons_succ]
    rfl
  refine one_ (i := 7) (N := some 19) #[true, true, true, true, true, true, true, true, false, false, false] rfl rfl (by kernel_rfl) (by decide) (fun K hK => ?_)
  obtain ⟨v1, w1, hrun, hB1, hR1, hF1, hA1⟩ := app_run (HQ.out.step (below_alloc (Below.refl _ _) (.cells #[.int .i64 x.f0, .int .i64 x.f1, .int .i64 x.f2] 77))) x 63 hl ⟨W2.heap.size, 0, none⟩ 1 (C_one (w := W2) x)
  obtain ⟨A1, cc, rfl, _, _⟩ := Kd.R_reads hR1
  refine event_app (by rfl) (.tmp 16) (.tmp 18) (by rfl) (.slice (some ⟨W2.heap.size, 0, none⟩) 1 1) v (by rfl) (by rfl) hrun ?_
  refine hK.out _ _ ⟨(blk_cell hB1 1).trans rfl, hF1.cell hHeld.2.1 hWF, hF1.cell hHeld.2.2.1 hWF, hF1.cell hHeld.2.2.2 hWF⟩ (fun hHeld => ?_)
  clear hK K
  refine norm_ (a' := ?_) ?_ ?_
  rotate_left
  · show Act.put _ (some 19) _ = _
    simp only [Act.put, List.setIfInBounds_toArray, List.set_cons_zero, List.set_cons_succ]
    rfl
  have hR1 := Aside0.mk hR1
  have hF1 := Aside0.mk hF1
  have hA1 := Aside0.mk hA1
  clear hrun
  refine pure_ (i := 8) (N := some 20) (v := ?_) (a' := ?_) #[true, true, true, true, true, true, true, true, true, false, false] rfl rfl (by kernel_rfl) (fun _ _ _ h => h) (Or.inl ⟨by rfl, ?_⟩) ?_ ?_
  rotate_left
  · intro w'
    go_simp
    with_reducible rfl
  rotate_left
  · simp only [Act.put, List.setIfInBounds_toArray, List.set_cons_zero, List.set_cons_succ]
    rfl
  refine pure_ (i := 9) (N := some 21) (v := ?_) (a' := ?_) #[true, true, true, true, true, true, true, true, true, true, false] rfl rfl (by kernel_rfl) (fun _ _ _ h => h) (Or.inl ⟨by rfl, ?_⟩) ?_ ?_
  rotate_left
  · intro w'
    go_simp
    with_reducible rfl
  rotate_left
  · simp only [Act.put, List.setIfInBounds_toArray, List.set_cons_zero, List.set_cons_succ]
    rfl
  refine last_ (i := 10) (N := none) #[true, true, true, true, true, true, true, true, true, true, true] rfl rfl (by kernel_rfl) (by decide) (fun K hK => ?_)
  have hs : w1.cell? ⟨B, 1, none⟩ = some v := (blk_cell hB1 1).trans rfl
  have hfs := blk_frozen hB1 1
  refine skip_ (w1 := ?_) (by rfl) rfl ?_ ?_
  rotate_left
  · go_simp
    rfl
  refine hK.out _ _ ?_
  clear hK K
  refine done_ (by kernel_rfl) ?_
  go_end0
  have hb3 := below_alloc HQ0'.out (.cells #[.int .i64 x.f0, .int .i64 x.f1, .int .i64 x.f2] 77)
  have hl1 : (L ++ [x]).length = L.length + 1 := by simp
  have hR2 := hR1.out
  rw [hl1] at hR2
  refine ⟨rfl, _, ⟨blk_set hB1 1 _, HQ.out.lb, own_of_R (Kd.R_set hR2 hB1 (by decide) 1 _)⟩, ?_, ?_⟩
  · exact Fr.then_ (Fr.of_below (F := QF B v) hb3) (Fr.then_ hF1.out (Fr.put (v := v)) (fun _ h => .inl h)) (fun _ h => .inl h)
  · rcases hA1.out with e | ⟨b, e, hb⟩
    · exact .inl (by rw [hl1] at e; exact e)
    · exact .inr ⟨b, by rw [hl1] at e; exact e, Nat.le_trans hb3.size hb⟩
set_option maxHeartbeats 4000000 in
set_option maxRecDepth 100000 in
theorem pop_calls {W : World} {base B : Nat} {ag rm ct : Int} {v : Value} {L : List S77} (h : QS W base B ag v rm ct L) (hl : 0 < L.length) :
    Calls Try.prog 121 #[.pointer (some ⟨B, 0, none⟩)] W fun e w' => (∃ q, e = .returned q) ∧ ∃ v', QS w' base B ag v' rm ct (L.take (L.length - 1)) ∧ Fr (QF B v) W w' ∧ v'.ownBlock = v.ownBlock := by
  have c1 : W.cell? ⟨B, 1, none⟩ = some v := h.cell 1
  obtain ⟨g, cap, rfl, hgb, hgl, cells, hgc⟩ := Kd.R_form (R_of_own h.own) hl
  have hC := (Kd.R_reads' (R_of_own h.own)).2.2
  have hcap := (Kd.R_reads' (R_of_own h.own)).2.1
  obtain ⟨j, hj⟩ : ∃ j : Int, ((L.length - 1 : Nat) : Int) = j := ⟨_, rfl⟩
  have hjw : IntKind.i64.wrap ((L.length : Int) - 1) = j := by have := hC.2.1; rw [i64_w]; unfold wrap64; omega
  obtain ⟨ad, e1, hx0, hx1, hx2⟩ := at_T77 hC j (by omega) (by omega)
  injection e1 with e1
  subst e1
  rw [Addr.add_lit, Nat.zero_add] at hx0 hx1 hx2
  have hBlt := h.lt
  have hBn : ¬ (B = W.heap.size) := by omega
  have hBn' : ¬ (W.heap.size = B) := by omega
  have hfz : W.frozen? ⟨B, 1, none⟩ = false := blk_frozen h.blk 1
  have p1 : 0 ≤ j := by omega
  have p2 : j < (L.length : Int) := by omega
  have p3 : j ≤ (cap : Int) := by omega
  have HJ : Aside0 (j.toNat = L.length - 1) := ⟨by omega⟩
  have H := Aside0.mk h
  clear h hj
  go_enter Try.func121, Try.ntmps121
  go_wp2
  go_ret
  refine ⟨⟨_, rfl⟩, .slice (some ⟨g, 0, none⟩) j.toNat cap, ?_, ?_, rfl⟩
  · have hR := Kd.R_take (m := j.toNat) (R_of_own H.out.own) (by rw [HJ.out]; omega)
    have hq := H.out.put hR
    rw [HJ.out] at hq ⊢
    exact hq.step (below_alloc (Below.refl _ _) _)
  · exact Fr.then_ Fr.put (Fr.of_below (F := fun _ => False) (below_alloc (Below.refl _ _) _)) (fun _ h => h.elim)
end Go.Proofs.Ytfkebbkfmchnaaa.Ln

namespace Go.Proofs.Ytfkebbkfmchnaaa.Ln
open Go.RowKit Go.Proofs.Ytfkebbkfmchnaaa.PBase Go.Proofs.Ytfkebbkfmchnaaa.Cat Go.Proofs.Ytfkebbkfmchnaaa.Heap Go.Proofs.YtfkebbkfmchnaaaW.PrintWords Go.Proofs.YtfkebbkfmchnaaaW.PrintLast Go.Proofs.YtfkebbkfmchnaaaW.PrintMore
/-- The order, as a Bool. -/
def lt (ag : Int) (a b : S77) : Bool := (turn_Less.f ag a.f0 a.f1 a.f2 b.f0 b.f1 b.f2).getD false
theorem lt_is (ag : Int) (a b : S77) : turn_Less.f ag a.f0 a.f1 a.f2 b.f0 b.f1 b.f2 = some (lt ag a b) := by
  have h1 : ∀ x y z, ∃ r, turn_in.f x y z = some r := fun x y z => by unfold turn_in.f; split <;> exact ⟨_, rfl⟩
  have h2 : ∀ x y z, ∃ r, turn_Good.f x y z = some r := fun x y z => by
    unfold turn_Good.f
    obtain ⟨r, hr⟩ := h1 y 0 7
    obtain ⟨r2, hr2⟩ := h1 z 0 1099511627776
    rw [hr, Option.bind_some, hr2]
    cases r <;> exact ⟨_, rfl⟩
  have h3 : ∀ a x y z, ∃ r, turn_Turn.f a x y z = some r := fun a x y z => by
    unfold turn_Turn.f
    obtain ⟨r, hr⟩ := h2 x y z
    obtain ⟨r2, hr2⟩ := h1 a 1 1000
    rw [hr, Option.bind_some, hr2]
    cases r <;> cases r2 <;> exact ⟨_, rfl⟩
  have h4 : ∃ r, turn_Less.f ag a.f0 a.f1 a.f2 b.f0 b.f1 b.f2 = some r := by
    unfold turn_Less.f
    obtain ⟨r, hr⟩ := h3 ag a.f0 a.f1 a.f2
    obtain ⟨r2, hr2⟩ := h3 ag b.f0 b.f1 b.f2
    rw [hr, Option.bind_some, hr2, Option.bind_some]
    split
    · exact ⟨_, rfl⟩
    · split <;> exact ⟨_, rfl⟩
  obtain ⟨r, hr⟩ := h4
  unfold lt
  rw [hr]
  rfl
theorem par_int {i p : Nat} {q P : Int} (hq : ((i + 1 : Nat) : Int) = q) (hp : (i + 1 - 1) / 2 = p) (hP : (p : Int) = P) : (q - 1).tdiv 2 = P := by
  subst hq; subst hP; subst hp
  rw [show ((i + 1 : Nat) : Int) - 1 = (i : Int) by omega, Nat.add_sub_cancel, Int.tdiv_eq_ediv_of_nonneg (by omega)]
  rfl
theorem par_ne {i p : Nat} {q P : Int} (hq : ((i + 1 : Nat) : Int) = q) (hp : (i + 1 - 1) / 2 = p) (hP : (p : Int) = P) : (P == q) = false := by
  rw [beq_eq_false_iff_ne]; omega
theorem wrap_pred {q : Int} (h0 : 0 ≤ q) (h1 : q ≤ 2000000) : IntKind.i64.wrap (q - 1) = q - 1 := by rw [i64_w]; unfold wrap64; omega
theorem wrap_id {q : Int} (h0 : 0 ≤ q) (h1 : q ≤ 2000000) : IntKind.i64.wrap q = q := by rw [i64_w]; unfold wrap64; omega
theorem up_zero (ag : Int) (f : Nat) (M : List S77) : Heap.up z77 (lt ag) f M 0 = M := by
  cases f with
  | zero => rfl
  | succ f => unfold Heap.up; rw [if_pos (.inl rfl)]
theorem up_stop {ag : Int} {f i p : Nat} {M : List S77} (hp : (i + 1 - 1) / 2 = p) (h : lt ag (rd_T77 M ((i + 1 : Nat) : Int)) (rd_T77 M (p : Int)) = false) : Heap.up z77 (lt ag) f M (i + 1) = M := by
  cases f with
  | zero => rfl
  | succ f =>
    unfold Heap.up
    rw [hp]
    exact if_pos (.inr h)
theorem up_go {ag : Int} {f i p : Nat} {M : List S77} (hp : (i + 1 - 1) / 2 = p) (h : lt ag (rd_T77 M ((i + 1 : Nat) : Int)) (rd_T77 M (p : Int)) = true) : Heap.up z77 (lt ag) (f + 1) M (i + 1) = Heap.up z77 (lt ag) f (sw z77 M p (i + 1)) p := by
  rw [Heap.up, if_neg, hp]
  rw [hp, not_or]
  refine ⟨by omega, ?_⟩
  have e : lt ag (Heap.g z77 M (i + 1)) (Heap.g z77 M p) = true := h
  rw [e]
  decide
theorem mLess (W : World) (p : Option Addr) : (method 276 115 (.pointer p) "Less").run Try.prog W = .ok (120, .pointer p) W := by kernel_rfl
theorem mSwap (W : World) (p : Option Addr) : (method 276 115 (.pointer p) "Swap").run Try.prog W = .ok (123, .pointer p) W := by kernel_rfl
theorem mLen (W : World) (p : Option Addr) : (method 276 115 (.pointer p) "Len").run Try.prog W = .ok (72, .pointer p) W := by kernel_rfl
theorem mPush (W : World) (p : Option Addr) : (method 276 115 (.pointer p) "Push").run Try.prog W = .ok (122, .pointer p) W := by kernel_rfl
theorem mPop (W : World) (p : Option Addr) : (method 276 115 (.pointer p) "Pop").run Try.prog W = .ok (121, .pointer p) W := by kernel_rfl
set_option maxHeartbeats 4000000 in
set_option maxRecDepth 100000 in
theorem up_calls {W : World} {base B : Nat} {ag rm ct : Int} {v : Value} {L : List S77} (h : QS W base B ag v rm ct L) (j : Nat) (hj : j < L.length) (hl : L.length ≤ 1000000) :
    Calls Try.prog 73 #[.iface 115 (.pointer (some ⟨B, 0, none⟩)), .int .i64 j] W fun e w' => e = .returned (.tuple #[]) ∧ QS w' base B ag v rm ct (Heap.up z77 (lt ag) j L j) ∧ Fr (QF B v) W w' := by
  go_enter Try.func73, Try.ntmps73
  go_wp2
  go_loopg [1] j (fun gg v1 wr => ∃ (f i : Nat) (M : List S77), i ≤ f ∧ i ≤ gg ∧ v1 = .int .i64 i ∧ i < M.length ∧ M.length = L.length ∧ Aside0 (Heap.up z77 (lt ag) j L j = Heap.up z77 (lt ag) f M i) ∧ QS wr base B ag v rm ct M ∧ Fr (QF B v) W wr)
  case atStart => exact ⟨j, j, L, Nat.le_refl _, Nat.le_refl _, rfl, hj, rfl, ⟨rfl⟩, h, Fr.refl _ _⟩
  case round =>
    obtain ⟨f, i, M, hif, hig, rfl, hiM, hML, HU, hQ, hF⟩ := hrel
    have hm1 := fun W => mLess W (some ⟨B, 0, none⟩)
    have hm2 := fun W => mSwap W (some ⟨B, 0, none⟩)
    cases i with
    | zero =>
      go_wp2_with (fail)
      go_end0
      exact ⟨rfl, by rw [HU.out, up_zero]; exact hQ, hF⟩
    | succ i =>
      obtain ⟨f, rfl⟩ : ∃ f', f = f' + 1 := ⟨f - 1, by omega⟩
      obtain ⟨q, hq⟩ : ∃ q : Int, ((i + 1 : Nat) : Int) = q := ⟨_, rfl⟩
      obtain ⟨p, hp⟩ : ∃ p : Nat, (i + 1 - 1) / 2 = p := ⟨_, rfl⟩
      obtain ⟨P, hP⟩ : ∃ P : Int, (p : Int) = P := ⟨_, rfl⟩
      have e1 := par_int hq hp hP
      have e2 := par_ne hq hp hP
      have e4 := wrap_id (q := P) (by omega) (by omega)
      have e3 := wrap_pred (q := q) (by omega) (by omega)
      have HQQ := Aside0.mk hq
      have HPP := Aside0.mk hP
      rw [hq]
      clear hq hP
      have hpl : p < M.length := by omega
      have hless := less_calls hQ (i + 1) p hiM hpl (lt ag (rd_T77 M ((i + 1 : Nat) : Int)) (rd_T77 M p)) (lt_is ag _ _)
      rw [HQQ.out, HPP.out] at hless
      have HL := Aside0.mk hless
      clear hless
      cases hlt : lt ag (rd_T77 M q) (rd_T77 M P) with
      | false =>
        rw [hlt] at HL
        go_wp2_with (go_at_call 120; refine HL.out.mono ?_; rintro e w7 ⟨rfl, hb7⟩)
        go_end0
        exact ⟨rfl, by rw [HU.out, up_stop hp (by rw [HQQ.out, HPP.out]; exact hlt)]; exact hQ.step hb7, Fr.then_ hF (Fr.of_below (F := fun _ => False) hb7) (fun _ h => h.elim)⟩
      | true =>
        rw [hlt] at HL
        go_wp2_with (first
          | (go_at_call 120; refine HL.out.mono ?_; rintro e w7 ⟨rfl, hb7⟩)
          | (go_at_call 123; refine ((by have := swap_calls (hQ.step hb7) p (i + 1) hpl hiM; rw [HQQ.out, HPP.out] at this; exact this) : Calls _ _ _ _ _).mono ?_; rintro e w8 ⟨rfl, hQ8, hF8⟩))
        go_roundg p
        case measure => omega
        case rel => exact ⟨f, p, sw z77 M p (i + 1), by omega, Nat.le_refl _, by rw [HPP.out], by rw [sw_len]; exact hpl, by rw [sw_len]; exact hML, ⟨by rw [HU.out, up_go hp (by rw [HQQ.out, HPP.out]; exact hlt)]⟩, hQ8, Fr.then_ (Fr.then_ hF (Fr.of_below (F := fun _ => False) hb7) (fun _ h => h.elim)) hF8 (fun _ h => .inl h)⟩
end Go.Proofs.Ytfkebbkfmchnaaa.Ln

namespace Go.Proofs.Ytfkebbkfmchnaaa.Ln
open Go.RowKit Go.Proofs.Ytfkebbkfmchnaaa.PBase Go.Proofs.Ytfkebbkfmchnaaa.Cat Go.Proofs.Ytfkebbkfmchnaaa.Heap Go.Proofs.YtfkebbkfmchnaaaW.PrintWords Go.Proofs.YtfkebbkfmchnaaaW.PrintLast Go.Proofs.YtfkebbkfmchnaaaW.PrintMore
theorem wrap_two {q A : Int} (h0 : 0 ≤ q) (h1 : q ≤ 2000000) (hA : 2 * q = A) : IntKind.i64.wrap (2 * q) = A := by rw [i64_w]; unfold wrap64; omega
theorem wrap_succ {q A : Int} (h0 : 0 ≤ q) (h1 : q ≤ 8000000) (hA : q + 1 = A) : IntKind.i64.wrap (q + 1) = A := by rw [i64_w]; unfold wrap64; omega
theorem down_stop {ag : Int} {f i n : Nat} {M : List S77} (h : 2 * i + 1 ≥ n) : Heap.down z77 (lt ag) f M i n = (M, i) := by
  cases f with
  | zero => rfl
  | succ f => unfold Heap.down; rw [if_pos h]
theorem down_stay {ag : Int} {f i n k : Nat} {M : List S77} (hk : kid z77 (lt ag) M i n = k) (h : lt ag (rd_T77 M (k : Int)) (rd_T77 M (i : Int)) = false) : Heap.down z77 (lt ag) f M i n = (M, i) := by
  cases f with
  | zero => rfl
  | succ f =>
    unfold Heap.down
    split
    · rfl
    · rw [hk]
      exact if_pos h
theorem down_go {ag : Int} {f i n k : Nat} {M : List S77} (hn : 2 * i + 1 < n) (hk : kid z77 (lt ag) M i n = k) (h : lt ag (rd_T77 M (k : Int)) (rd_T77 M (i : Int)) = true) : Heap.down z77 (lt ag) (f + 1) M i n = Heap.down z77 (lt ag) f (sw z77 M i k) k n := by
  rw [Heap.down, if_neg (by omega), hk, if_neg]
  have e : lt ag (Heap.g z77 M k) (Heap.g z77 M i) = true := h
  rw [e]
  decide
theorem kid_left {ag : Int} {i n : Nat} {M : List S77} (h : n ≤ 2 * i + 2) : kid z77 (lt ag) M i n = 2 * i + 1 := by
  unfold kid; rw [if_neg (by omega)]
theorem kid_left2 {ag : Int} {i n : Nat} {M : List S77} (h : lt ag (rd_T77 M ((2 * i + 2 : Nat) : Int)) (rd_T77 M ((2 * i + 1 : Nat) : Int)) = false) : kid z77 (lt ag) M i n = 2 * i + 1 := by
  unfold kid
  rw [if_neg]
  rintro ⟨_, e⟩
  have e' : lt ag (Heap.g z77 M (2 * i + 2)) (Heap.g z77 M (2 * i + 1)) = false := h
  rw [e'] at e
  cases e
theorem kid_right {ag : Int} {i n : Nat} {M : List S77} (hn : 2 * i + 2 < n) (h : lt ag (rd_T77 M ((2 * i + 2 : Nat) : Int)) (rd_T77 M ((2 * i + 1 : Nat) : Int)) = true) : kid z77 (lt ag) M i n = 2 * i + 2 := by
  unfold kid
  exact if_pos ⟨hn, h⟩
set_option maxHeartbeats 4000000 in
set_option maxRecDepth 100000 in
theorem down_calls {W : World} {base B : Nat} {ag rm ct : Int} {v : Value} {L : List S77} (h : QS W base B ag v rm ct L) (j n : Nat) (hj : j < n) (hn : n ≤ L.length) (hl : L.length ≤ 1000000) :
    Calls Try.prog 74 #[.iface 115 (.pointer (some ⟨B, 0, none⟩)), .int .i64 j, .int .i64 n] W fun e w' => e = .returned (.bool (decide (j < (Heap.down z77 (lt ag) n L j n).2))) ∧ QS w' base B ag v rm ct (Heap.down z77 (lt ag) n L j n).1 ∧ Fr (QF B v) W w' := by
  go_enter Try.func74, Try.ntmps74
  go_wp2
  go_loopg [7] n (fun gg v7 wr => ∃ (f i : Nat) (M : List S77), n - i ≤ f ∧ n - i ≤ gg ∧ v7 = .int .i64 i ∧ j ≤ i ∧ i < n ∧ M.length = L.length ∧ Aside0 (Heap.down z77 (lt ag) n L j n = Heap.down z77 (lt ag) f M i n) ∧ QS wr base B ag v rm ct M ∧ Fr (QF B v) W wr)
  case atStart => exact ⟨n, j, L, Nat.sub_le _ _, Nat.sub_le _ _, rfl, Nat.le_refl _, hj, rfl, ⟨rfl⟩, h, Fr.refl _ _⟩
  case round =>
    obtain ⟨f, i, M, hif, hig, rfl, hji, hin, hML, HU, hQ, hF⟩ := hrel
    have hm1 := fun W => mLess W (some ⟨B, 0, none⟩)
    have hm2 := fun W => mSwap W (some ⟨B, 0, none⟩)
    obtain ⟨A, hA⟩ : ∃ A : Int, 2 * (i : Int) = A := ⟨_, rfl⟩
    obtain ⟨J1, hJ1⟩ : ∃ A : Int, ((2 * i + 1 : Nat) : Int) = A := ⟨_, rfl⟩
    obtain ⟨J2, hJ2⟩ : ∃ A : Int, ((2 * i + 2 : Nat) : Int) = A := ⟨_, rfl⟩
    have e1 := wrap_two (q := i) (A := A) (by omega) (by omega) hA
    have e2 := wrap_succ (q := A) (A := J1) (by omega) (by omega) (by omega)
    have e3 := wrap_succ (q := J1) (A := J2) (by omega) (by omega) (by omega)
    have HA := Aside0.mk hA
    have H1 := Aside0.mk hJ1
    have H2 := Aside0.mk hJ2
    by_cases hc : 2 * i + 1 ≥ n
    · have hc' : (n : Int) ≤ J1 := by omega
      clear hA hJ1 hJ2 e3
      go_wp2_with (fail)
      go_ret
      rw [HU.out, down_stop hc]
      exact ⟨by first | (congr 2; done) | (congr 2; exact decide_eq_decide.2 (by omega)), hQ, hF⟩
    · have hc' : ¬ (n : Int) ≤ J1 := by omega
      have hc0 : ¬ J1 < 0 := by omega
      obtain ⟨f, rfl⟩ : ∃ f', f = f' + 1 := ⟨f - 1, by omega⟩
      by_cases hd : 2 * i + 2 < n
      · have hd' : J2 < (n : Int) := by omega
        have HL := Aside0.mk (less_calls hQ (2 * i + 2) (2 * i + 1) (by omega) (by omega) _ (lt_is ag _ _))
        rw [H2.out, H1.out] at HL
        cases hlt : lt ag (rd_T77 M J2) (rd_T77 M J1) with
        | false =>
          rw [hlt] at HL
          have hk : kid z77 (lt ag) M i n = 2 * i + 1 := kid_left2 (by rw [H1.out, H2.out]; exact hlt)
          cases hlt2 : lt ag (rd_T77 M J1) (rd_T77 M i) with
          | false =>
            clear hA hJ1 hJ2
            go_wp2_with (first
              | (go_at_call 120; refine HL.out.mono ?_; rintro e w7 ⟨rfl, hb7⟩; have HL2 := Aside0.mk (less_calls (hQ.step hb7) (2 * i + 1) i (by omega) (by omega) _ (lt_is ag _ _)); rw [H1.out, hlt2] at HL2; clear HL)
              | (go_at_call 120; refine HL2.out.mono ?_; rintro e w8 ⟨rfl, hb8⟩))
            go_ret
            rw [HU.out, down_stay hk (by rw [H1.out]; exact hlt2)]
            exact ⟨by first | (congr 2; done) | (congr 2; exact decide_eq_decide.2 (by omega)), ((hQ.step hb7).step hb8), Fr.then_ (Fr.then_ hF (Fr.of_below (F := fun _ => False) hb7) (fun _ h => h.elim)) (Fr.of_below (F := fun _ => False) hb8) (fun _ h => h.elim)⟩
          | true =>
            clear hA hJ1 hJ2
            go_wp2_with (first
              | (go_at_call 120; refine HL.out.mono ?_; rintro e w7 ⟨rfl, hb7⟩; have HL2 := Aside0.mk (less_calls (hQ.step hb7) (2 * i + 1) i (by omega) (by omega) _ (lt_is ag _ _)); rw [H1.out, hlt2] at HL2; clear HL)
              | (go_at_call 120; refine HL2.out.mono ?_; rintro e w8 ⟨rfl, hb8⟩)
              | (go_at_call 123; refine ((by have := swap_calls ((hQ.step hb7).step hb8) i (2 * i + 1) (by omega) (by omega); rw [H1.out] at this; exact this) : Calls _ _ _ _ _).mono ?_; rintro e w9 ⟨rfl, hQ9, hF9⟩))
            go_roundg (n - (2 * i + 1))
            case measure => omega
            case rel => exact ⟨f, 2 * i + 1, sw z77 M i (2 * i + 1), by omega, Nat.le_refl _, by rw [H1.out], by omega, by omega, by rw [sw_len]; exact hML, ⟨by rw [HU.out, down_go (by omega) hk (by rw [H1.out]; exact hlt2)]⟩, hQ9, Fr.then_ (Fr.then_ (Fr.then_ hF (Fr.of_below (F := fun _ => False) hb7) (fun _ h => h.elim)) (Fr.of_below (F := fun _ => False) hb8) (fun _ h => h.elim)) hF9 (fun _ h => .inl h)⟩
        | true =>
          rw [hlt] at HL
          have hk : kid z77 (lt ag) M i n = 2 * i + 2 := kid_right hd (by rw [H1.out, H2.out]; exact hlt)
          cases hlt2 : lt ag (rd_T77 M J2) (rd_T77 M i) with
          | false =>
            clear hA hJ1 hJ2
            go_wp2_with (first
              | (go_at_call 120; refine HL.out.mono ?_; rintro e w7 ⟨rfl, hb7⟩; have HL2 := Aside0.mk (less_calls (hQ.step hb7) (2 * i + 2) i (by omega) (by omega) _ (lt_is ag _ _)); rw [H2.out, hlt2] at HL2; clear HL)
              | (go_at_call 120; refine HL2.out.mono ?_; rintro e w8 ⟨rfl, hb8⟩))
            go_ret
            rw [HU.out, down_stay hk (by rw [H2.out]; exact hlt2)]
            exact ⟨by first | (congr 2; done) | (congr 2; exact decide_eq_decide.2 (by omega)), ((hQ.step hb7).step hb8), Fr.then_ (Fr.then_ hF (Fr.of_below (F := fun _ => False) hb7) (fun _ h => h.elim)) (Fr.of_below (F := fun _ => False) hb8) (fun _ h => h.elim)⟩
          | true =>
            clear hA hJ1 hJ2
            go_wp2_with (first
              | (go_at_call 120; refine HL.out.mono ?_; rintro e w7 ⟨rfl, hb7⟩; have HL2 := Aside0.mk (less_calls (hQ.step hb7) (2 * i + 2) i (by omega) (by omega) _ (lt_is ag _ _)); rw [H2.out, hlt2] at HL2; clear HL)
              | (go_at_call 120; refine HL2.out.mono ?_; rintro e w8 ⟨rfl, hb8⟩)
              | (go_at_call 123; refine ((by have := swap_calls ((hQ.step hb7).step hb8) i (2 * i + 2) (by omega) (by omega); rw [H2.out] at this; exact this) : Calls _ _ _ _ _).mono ?_; rintro e w9 ⟨rfl, hQ9, hF9⟩))
            go_roundg (n - (2 * i + 2))
            case measure => omega
            case rel => exact ⟨f, 2 * i + 2, sw z77 M i (2 * i + 2), by omega, Nat.le_refl _, by rw [H2.out], by omega, by omega, by rw [sw_len]; exact hML, ⟨by rw [HU.out, down_go (by omega) hk (by rw [H2.out]; exact hlt2)]⟩, hQ9, Fr.then_ (Fr.then_ (Fr.then_ hF (Fr.of_below (F := fun _ => False) hb7) (fun _ h => h.elim)) (Fr.of_below (F := fun _ => False) hb8) (fun _ h => h.elim)) hF9 (fun _ h => .inl h)⟩
      · have hd' : ¬ J2 < (n : Int) := by omega
        have hk : kid z77 (lt ag) M i n = 2 * i + 1 := kid_left (by omega)
        cases hlt2 : lt ag (rd_T77 M J1) (rd_T77 M i) with
        | false =>
          have HL2 := Aside0.mk (less_calls hQ (2 * i + 1) i (by omega) (by omega) _ (lt_is ag _ _))
          rw [H1.out, hlt2] at HL2
          clear hA hJ1 hJ2
          go_wp2_with (go_at_call 120; refine HL2.out.mono ?_; rintro e w8 ⟨rfl, hb8⟩)
          go_ret
          rw [HU.out, down_stay hk (by rw [H1.out]; exact hlt2)]
          exact ⟨by first | (congr 2; done) | (congr 2; exact decide_eq_decide.2 (by omega)), (hQ.step hb8), Fr.then_ hF (Fr.of_below (F := fun _ => False) hb8) (fun _ h => h.elim)⟩
        | true =>
          have HL2 := Aside0.mk (less_calls hQ (2 * i + 1) i (by omega) (by omega) _ (lt_is ag _ _))
          rw [H1.out, hlt2] at HL2
          clear hA hJ1 hJ2
          go_wp2_with (first
            | (go_at_call 120; refine HL2.out.mono ?_; rintro e w8 ⟨rfl, hb8⟩)
            | (go_at_call 123; refine ((by have := swap_calls (hQ.step hb8) i (2 * i + 1) (by omega) (by omega); rw [H1.out] at this; exact this) : Calls _ _ _ _ _).mono ?_; rintro e w9 ⟨rfl, hQ9, hF9⟩))
          go_roundg (n - (2 * i + 1))
          case measure => omega
          case rel => exact ⟨f, 2 * i + 1, sw z77 M i (2 * i + 1), by omega, Nat.le_refl _, by rw [H1.out], by omega, by omega, by rw [sw_len]; exact hML, ⟨by rw [HU.out, down_go (by omega) hk (by rw [H1.out]; exact hlt2)]⟩, hQ9, Fr.then_ (Fr.then_ hF (Fr.of_below (F := fun _ => False) hb8) (fun _ h => h.elim)) hF9 (fun _ h => .inl h)⟩
end Go.Proofs.Ytfkebbkfmchnaaa.Ln

namespace Go.Proofs.Ytfkebbkfmchnaaa.Ln
open Go.RowKit Go.Proofs.Ytfkebbkfmchnaaa.PBase Go.Proofs.Ytfkebbkfmchnaaa.Cat Go.Proofs.Ytfkebbkfmchnaaa.Heap Go.Proofs.YtfkebbkfmchnaaaW.PrintWords Go.Proofs.YtfkebbkfmchnaaaW.PrintLast Go.Proofs.YtfkebbkfmchnaaaW.PrintMore
/-- A job more, and it goes up. -/
def pushL (ag : Int) (L : List S77) (x : S77) : List S77 := Heap.up z77 (lt ag) L.length (L ++ [x]) L.length
/-- The places but the last, behind a removal at i. -/
def fixL (ag : Int) (L : List S77) (i n : Nat) : List S77 := if i < (Heap.down z77 (lt ag) n (sw z77 L i n) i n).2 then (Heap.down z77 (lt ag) n (sw z77 L i n) i n).1 else Heap.up z77 (lt ag) i (Heap.down z77 (lt ag) n (sw z77 L i n) i n).1 i
def removeL (ag : Int) (L : List S77) (i : Nat) : List S77 := (if L.length - 1 ≠ i then fixL ag L i (L.length - 1) else L).take (L.length - 1)
theorem up_len (ag : Int) : ∀ (f : Nat) (M : List S77) (j : Nat), (Heap.up z77 (lt ag) f M j).length = M.length := by
  intro f
  induction f with
  | zero => intro M j; rfl
  | succ f ih =>
    intro M j
    unfold Heap.up
    split
    · rfl
    · rw [ih, sw_len]
theorem down_len (ag : Int) (n : Nat) : ∀ (f : Nat) (M : List S77) (j : Nat), (Heap.down z77 (lt ag) f M j n).1.length = M.length := by
  intro f
  induction f with
  | zero => intro M j; rfl
  | succ f ih =>
    intro M j
    unfold Heap.down
    split
    · rfl
    · split
      · rfl
      · rw [ih, sw_len]
theorem fixL_len (ag : Int) (L : List S77) (i n : Nat) : (fixL ag L i n).length = L.length := by
  unfold fixL
  split
  · rw [down_len, sw_len]
  · rw [up_len, down_len, sw_len]
theorem QS.drewN {W : World} {base B : Nat} {ag rm ct : Int} {v : Value} {L : List S77} (h : QS W base B ag v rm ct L) (n : Nat) : QS (W.drewN n) base B ag v rm ct L := ⟨h.blk, h.lb, h.own⟩
theorem Fr.drewN {F : Nat → Prop} (W : World) (n : Nat) : Fr F W (W.drewN n) := ⟨rfl, rfl, rfl, Nat.le_refl _, fun _ _ _ => rfl⟩
theorem qf_at {W : World} {B : Nat} {v v' : Value} (h : At W v v') : ∀ b, QF B v' b → QF B v b ∨ W.heap.size ≤ b := by
  rintro b (e | e)
  · exact .inl (.inl e)
  · rcases h with h | ⟨c, h, hc⟩
    · exact .inl (.inr (h ▸ e))
    · rw [h] at e
      injection e with e
      subst e
      exact .inr hc
theorem qf_same {B : Nat} {v v' : Value} (h : v'.ownBlock = v.ownBlock) : ∀ b, QF B v' b → QF B v b := by
  rintro b (e | e)
  · exact .inl e
  · exact .inr (h ▸ e)
set_option maxHeartbeats 4000000 in
set_option maxRecDepth 100000 in
theorem heap_push_calls {W : World} {base B : Nat} {ag rm ct : Int} {v : Value} {L : List S77} (h : QS W base B ag v rm ct L) (x : S77) (hl : L.length ≤ 100000) :
    Calls Try.prog 59 #[.iface 115 (.pointer (some ⟨B, 0, none⟩)), .iface 77 (.agg #[.int .i64 x.f0, .int .i64 x.f1, .int .i64 x.f2])] W fun e w' => e = .returned (.tuple #[]) ∧ ∃ v', QS w' base B ag v' rm ct (pushL ag L x) ∧ Fr (QF B v) W w' ∧ At W v v' := by
  have hm1 := fun W => mPush W (some ⟨B, 0, none⟩)
  have hm2 := fun W => mLen W (some ⟨B, 0, none⟩)
  obtain ⟨Q, hQe⟩ : ∃ Q : Int, (L.length : Int) = Q := ⟨_, rfl⟩
  obtain ⟨Q1, hQ1⟩ : ∃ Q : Int, (((L ++ [x]).length : Nat) : Int) = Q := ⟨_, rfl⟩
  have hlen : (L ++ [x]).length = L.length + 1 := by simp
  have hw : IntKind.i64.wrap (Q1 - 1) = Q := by rw [wrap_pred (by omega) (by omega)]; omega
  have HE := Aside0.mk hQe
  have HE1 := Aside0.mk hQ1
  clear hQe hQ1
  go_enter Try.func59, Try.ntmps59
  go_wp2_with (first
    | (go_at_call 122; refine (push_calls h x (by omega)).mono ?_; rintro e w7 ⟨rfl, v7, hQ7, hF7, hA7⟩)
    | (go_at_call 72; refine (len_calls hQ7).mono ?_; rintro e w8 ⟨rfl, n8, rfl⟩; rw [HE1.out])
    | (go_at_call 73; refine ((by have := up_calls (hQ7.drewN n8) L.length (by omega) (by omega); rw [HE.out] at this; exact this) : Calls _ _ _ _ _).mono ?_; rintro e w9 ⟨rfl, hQ9, hF9⟩))
  go_end0
  exact ⟨rfl, v7, hQ9, Fr.then_ (Fr.then_ hF7 (Fr.drewN w7 n8) (fun _ h => .inl h)) hF9 (qf_at hA7), hA7⟩
set_option maxHeartbeats 4000000 in
set_option maxRecDepth 100000 in
theorem heap_remove_calls {W : World} {base B : Nat} {ag rm ct : Int} {v : Value} {L : List S77} (h : QS W base B ag v rm ct L) (i : Nat) (hi : i < L.length) (hl : L.length ≤ 100000) :
    Calls Try.prog 60 #[.iface 115 (.pointer (some ⟨B, 0, none⟩)), .int .i64 i] W fun e w' => (∃ q, e = .returned q) ∧ ∃ v', QS w' base B ag v' rm ct (removeL ag L i) ∧ Fr (QF B v) W w' ∧ v'.ownBlock = v.ownBlock := by
  have hm1 := fun W => mPop W (some ⟨B, 0, none⟩)
  have hm2 := fun W => mLen W (some ⟨B, 0, none⟩)
  have hm3 := fun W => mSwap W (some ⟨B, 0, none⟩)
  obtain ⟨Q, hQe⟩ : ∃ Q : Int, (L.length : Int) = Q := ⟨_, rfl⟩
  obtain ⟨n, hn⟩ : ∃ n : Nat, L.length - 1 = n := ⟨_, rfl⟩
  have hw : IntKind.i64.wrap (Q - 1) = n := by rw [wrap_pred (by omega) (by omega)]; omega
  have HE := Aside0.mk hQe
  have HN := Aside0.mk hn
  clear hQe
  unfold removeL
  by_cases hni : L.length - 1 = i
  · have hne : ((n : Int) == (i : Int)) = true := by rw [beq_iff_eq]; omega
    rw [if_neg (by simp [hni])]
    clear hn
    go_enter Try.func60, Try.ntmps60
    go_wp2_with (first
      | (go_at_call 72; refine (len_calls h).mono ?_; rintro e w8 ⟨rfl, n8, rfl⟩; rw [HE.out])
      | (go_at_call 121; refine (pop_calls (h.drewN n8) (by omega)).mono ?_; rintro e w9 ⟨⟨q, rfl⟩, v9, hQ9, hF9, hA9⟩))
    go_ret
    exact ⟨⟨_, rfl⟩, v9, hQ9, Fr.then_ (Fr.drewN W n8) hF9 (fun _ h => .inl h), hA9⟩
  · have hne : ((n : Int) == (i : Int)) = false := by rw [beq_eq_false_iff_ne]; omega
    rw [if_pos hni, HN.out]
    have hsl := sw_len z77 L i n
    clear hn
    unfold fixL
    by_cases hd : i < (Heap.down z77 (lt ag) n (sw z77 L i n) i n).2
    · rw [if_pos hd]
      have hD := down_len ag n n (sw z77 L i n) i
      go_enter Try.func60, Try.ntmps60
      go_wp2_with (first
        | (go_at_call 72; refine (len_calls h).mono ?_; rintro e w8 ⟨rfl, n8, rfl⟩; rw [HE.out])
        | (go_at_call 123; refine (swap_calls (h.drewN n8) i n hi (by have := HN.out; omega)).mono ?_; rintro e w6 ⟨rfl, hQ6, hF6⟩)
        | (go_at_call 74; refine (down_calls hQ6 i n (by have := HN.out; omega) (by have := HN.out; omega) (by omega)).mono ?_; rintro e w7 ⟨rfl, hQ7, hF7⟩; rw [decide_eq_true hd])
        | (go_at_call 121; refine (pop_calls hQ7 (by omega)).mono ?_; rintro e w9 ⟨⟨q, rfl⟩, v9, hQ9, hF9, hA9⟩))
      go_ret
      rw [hD, hsl, HN.out] at hQ9
      exact ⟨⟨_, rfl⟩, v9, hQ9, Fr.then_ (Fr.then_ (Fr.then_ (Fr.drewN W n8) hF6 (fun _ h => .inl h)) hF7 (fun _ h => .inl h)) hF9 (fun _ h => .inl h), hA9⟩
    · rw [if_neg hd]
      have hD := down_len ag n n (sw z77 L i n) i
      have hU := up_len ag i (Heap.down z77 (lt ag) n (sw z77 L i n) i n).1 i
      go_enter Try.func60, Try.ntmps60
      go_wp2_with (first
        | (go_at_call 72; refine (len_calls h).mono ?_; rintro e w8 ⟨rfl, n8, rfl⟩; rw [HE.out])
        | (go_at_call 123; refine (swap_calls (h.drewN n8) i n hi (by have := HN.out; omega)).mono ?_; rintro e w6 ⟨rfl, hQ6, hF6⟩)
        | (go_at_call 74; refine (down_calls hQ6 i n (by have := HN.out; omega) (by have := HN.out; omega) (by omega)).mono ?_; rintro e w7 ⟨rfl, hQ7, hF7⟩; rw [decide_eq_false hd])
        | (go_at_call 73; refine (up_calls hQ7 i (by omega) (by omega)).mono ?_; rintro e w5 ⟨rfl, hQ5, hF5⟩)
        | (go_at_call 121; refine (pop_calls hQ5 (by omega)).mono ?_; rintro e w9 ⟨⟨q, rfl⟩, v9, hQ9, hF9, hA9⟩))
      go_ret
      rw [hU, hD, hsl, HN.out] at hQ9
      exact ⟨⟨_, rfl⟩, v9, hQ9, Fr.then_ (Fr.then_ (Fr.then_ (Fr.then_ (Fr.drewN W n8) hF6 (fun _ h => .inl h)) hF7 (fun _ h => .inl h)) hF5 (fun _ h => .inl h)) hF9 (fun _ h => .inl h), hA9⟩
end Go.Proofs.Ytfkebbkfmchnaaa.Ln
