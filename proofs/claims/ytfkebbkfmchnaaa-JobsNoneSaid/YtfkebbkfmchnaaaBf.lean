/- jobs.Book's functions as calls: at nil; State, Lease, Open, Waits, Count, New. Conditions: the book lies in memory as told. -/
import Derived.Test.YtfkebbkfmchnaaaBm
set_option linter.unusedVariables false
namespace Go.Proofs.Ytfkebbkfmchnaaa.Bk
open Go.RowKit Go.Maps Go.Proofs.Ytfkebbkfmchnaaa.PBase Go.Proofs.Ytfkebbkfmchnaaa.Cat Go.Proofs.Ytfkebbkfmchnaaa.Heap Go.Proofs.Ytfkebbkfmchnaaa.Ln Go.Proofs.Ytfkebbkfmchnaaa.Lst Go.Proofs.Ytfkebbkfmchnaaa.Mq Go.Proofs.YtfkebbkfmchnaaaW.PrintWords Go.Proofs.YtfkebbkfmchnaaaW.PrintLast Go.Proofs.YtfkebbkfmchnaaaW.PrintMore
/-- A book in memory; what may change: N and above, but for X. -/
structure BI (N : Nat) (X : Nat → Prop) (W : World) (G : Nat) (b : Book) : Prop where
  ex : ∃ B T mj ma mo, RM N X W G B T mj ma mo b.ag b.rm b.tr b.ct b.ct b.L (fun x => (lk jid b.Js x).map jc) b.Js.length b.Ls
  inv : Inv b
theorem BI.step {N : Nat} {X : Nat → Prop} {W W' : World} {G : Nat} {b : Book} (h : BI N X W G b) (hb : Below W.heap.size W W') : BI N X W' G b := by
  obtain ⟨⟨B, T, mj, ma, mo, h1⟩, h2⟩ := h
  exact ⟨⟨B, T, mj, ma, mo, h1.step hb⟩, h2⟩
theorem QI.sub {N : Nat} {X Y : Nat → Prop} {W : World} {B : Nat} {ag rm ct : Int} {L : List S77} (h : QI N X W B ag rm ct L) (hs : ∀ k, Y k → X k) : QI N Y W B ag rm ct L := by
  obtain ⟨⟨v, h1, h2⟩, h3⟩ := h
  exact ⟨⟨v, h1, fun k hk => h2 k (hs k hk)⟩, fun k hk => h3 k (hs k hk)⟩
/-! ### Results that lie in memory -/
/-- A lease as told. -/
abbrev lv (n j t u : Int) : Value := .agg #[.int .i64 n, .int .i64 j, .int .i64 0, .int .i64 0, .int .i64 t, .int .u64 u]
theorem lease_ret {Q : Ending → World → Prop} {tmps : Array Value} {W : World} {n j t u : Int} {b : Bool} {g : Nat} (hg : tmps.getD 4 undef = ptr g) (he : tmps.getD 5 undef = .bool b) (hb : W.heap[g]? = some (.cells #[.int .i64 n, .int .i64 j, .int .i64 0, .int .i64 0, .int .i64 t, .int .u64 u] 33 (0, 0))) (hQ : Q (.returned (.tuple #[lv n j t u, .bool b])) W) : bodyPost Try.prog Try.f20 Q Exit.ret { tmps := tmps, defers := [] } W :=
  bodyPost_ret (v := .tuple #[lv n j t u, .bool b]) (by rw [← he]; exact results_ct (fn := Try.f20) rfl tmps W g 33 _ (0, 0) _ hg hb Try.underlying33 rfl (by kernel_rfl)) rfl hQ
theorem fetch_ret {Q : Ending → World → Prop} {tmps : Array Value} {W : World} {n j t u : Int} {b : Int} {g : Nat} (hg : tmps.getD 4 undef = ptr g) (he : tmps.getD 5 undef = .int .i64 b) (hb : W.heap[g]? = some (.cells #[.int .i64 n, .int .i64 j, .int .i64 0, .int .i64 0, .int .i64 t, .int .u64 u] 33 (0, 0))) (hQ : Q (.returned (.tuple #[lv n j t u, .int .i64 b])) W) : bodyPost Try.prog Try.f12 Q Exit.ret { tmps := tmps, defers := [] } W :=
  bodyPost_ret (v := .tuple #[lv n j t u, .int .i64 b]) (by rw [← he]; exact results_ct (fn := Try.f12) rfl tmps W g 33 _ (0, 0) _ hg hb Try.underlying33 rfl (by kernel_rfl)) rfl hQ
theorem state_ret {Q : Ending → World → Prop} {tmps : Array Value} {W : World} {s u : Int} {b : Bool} {g : Nat} (hg : tmps.getD 4 undef = ptr g) (he : tmps.getD 5 undef = .bool b) (hb : W.heap[g]? = some (.cells #[.int .i64 s, .int .i64 u] 44 (0, 0))) (hQ : Q (.returned (.tuple #[.agg #[.int .i64 s, .int .i64 u], .bool b])) W) : bodyPost Try.prog Try.f18 Q Exit.ret { tmps := tmps, defers := [] } W :=
  bodyPost_ret (v := .tuple #[.agg #[.int .i64 s, .int .i64 u], .bool b]) (by rw [← he]; exact results_ct (fn := Try.f18) rfl tmps W g 44 _ (0, 0) _ hg hb Try.underlying44 rfl (by kernel_rfl)) rfl hQ
/-! ### At nil -/
set_option maxHeartbeats 4000000 in
set_option maxRecDepth 100000 in
theorem fetch_nil (W : World) (u : Int) : Calls Try.prog 12 #[.pointer none, .int .u64 u] W fun e w' => e = .returned (.tuple #[lv 0 0 0 0, .int .i64 1]) ∧ Below W.heap.size W w' := by
  go_enter Try.func12, Try.ntmps12
  go_wp2
  exact fetch_ret (g := W.heap.size) rfl rfl (blk_new _ _) ⟨rfl, below_alloc (Below.refl _ _) _⟩
set_option maxHeartbeats 4000000 in
set_option maxRecDepth 100000 in
theorem lease_nil (W : World) (n : Int) : Calls Try.prog 20 #[.pointer none, .int .i64 n] W fun e w' => e = .returned (.tuple #[lv 0 0 0 0, .bool false]) ∧ Below W.heap.size W w' := by
  go_enter Try.func20, Try.ntmps20
  go_wp2
  exact lease_ret (g := W.heap.size) rfl rfl (blk_new _ _) ⟨rfl, below_alloc (Below.refl _ _) _⟩
set_option maxHeartbeats 4000000 in
set_option maxRecDepth 100000 in
theorem state_nil (W : World) (n : Int) : Calls Try.prog 18 #[.pointer none, .int .i64 n] W fun e w' => e = .returned (.tuple #[.agg #[.int .i64 0, .int .i64 0], .bool false]) ∧ Below W.heap.size W w' := by
  go_enter Try.func18, Try.ntmps18
  go_wp2
  exact state_ret (g := W.heap.size) rfl rfl (blk_new _ _) ⟨rfl, below_alloc (Below.refl _ _) _⟩
set_option maxHeartbeats 4000000 in
set_option maxRecDepth 100000 in
theorem answer_nil (W : World) (n : Int) : Calls Try.prog 13 #[.pointer none, .int .i64 n] W fun e w' => e = .returned (.tuple #[.int .i64 0, .int .i64 1]) ∧ Below W.heap.size W w' := by
  go_enter Try.func13, Try.ntmps13
  go_wp2
  go_ret2
  exact ⟨rfl, Below.refl _ _⟩
set_option maxHeartbeats 4000000 in
set_option maxRecDepth 100000 in
theorem fail_nil (W : World) (n : Int) : Calls Try.prog 14 #[.pointer none, .int .i64 n] W fun e w' => e = .returned (.tuple #[.int .i64 0, .bool false, .int .i64 1]) ∧ Below W.heap.size W w' := by
  go_enter Try.func14, Try.ntmps14
  go_wp2
  go_ret3
  exact ⟨rfl, Below.refl _ _⟩
set_option maxHeartbeats 4000000 in
set_option maxRecDepth 100000 in
theorem add_nil (W : World) (n c : Int) : Calls Try.prog 9 #[.pointer none, .int .i64 n, .int .i64 c] W fun e w' => e = .returned (.int .i64 1) ∧ Below W.heap.size W w' := by
  go_enter Try.func9, Try.ntmps9
  go_wp2
  go_ret
  exact ⟨rfl, Below.refl _ _⟩
set_option maxHeartbeats 4000000 in
set_option maxRecDepth 100000 in
theorem rested_nil (W : World) (n : Int) : Calls Try.prog 15 #[.pointer none, .int .i64 n] W fun e w' => e = .returned (.bool false) ∧ Below W.heap.size W w' := by
  go_enter Try.func15, Try.ntmps15
  go_wp2
  go_ret
  exact ⟨rfl, Below.refl _ _⟩
set_option maxHeartbeats 4000000 in
set_option maxRecDepth 100000 in
theorem bdrop_nil (W : World) (n : Int) : Calls Try.prog 17 #[.pointer none, .int .i64 n] W fun e w' => e = .returned (.bool false) ∧ Below W.heap.size W w' := by
  go_enter Try.func17, Try.ntmps17
  go_wp2
  go_ret
  exact ⟨rfl, Below.refl _ _⟩
set_option maxHeartbeats 4000000 in
set_option maxRecDepth 100000 in
theorem open_nil (W : World) : Calls Try.prog 11 #[.pointer none] W fun e w' => e = .returned (.int .i64 0) ∧ Below W.heap.size W w' := by
  go_enter Try.func11, Try.ntmps11
  go_wp2
  go_ret
  exact ⟨rfl, Below.refl _ _⟩
set_option maxHeartbeats 4000000 in
set_option maxRecDepth 100000 in
theorem waits_nil (W : World) : Calls Try.prog 31 #[.pointer none] W fun e w' => e = .returned (.slice none 0 0) ∧ Below W.heap.size W w' := by
  go_enter Try.func31, Try.ntmps31
  go_wp2
  go_ret
  exact ⟨rfl, Below.refl _ _⟩
set_option maxHeartbeats 4000000 in
set_option maxRecDepth 100000 in
theorem bcount_nil (W : World) : Calls Try.prog 32 #[.pointer none] W fun e w' => e = .returned (.int .i64 0) ∧ Below W.heap.size W w' := by
  go_enter Try.func32, Try.ntmps32
  go_wp2
  go_ret
  exact ⟨rfl, Below.refl _ _⟩
/-! ### New -/
set_option maxHeartbeats 4000000 in
set_option maxRecDepth 100000 in
theorem bnew_good (ag rm tr : Int) (N : Nat) (W : World) (hN : N ≤ W.heap.size) (h1 : 1 ≤ ag ∧ ag ≤ 1000) (h2 : 0 ≤ rm ∧ rm ≤ 1000) (h3 : 0 ≤ tr ∧ tr ≤ 9) :
    Calls Try.prog 8 #[.int .i64 ag, .int .i64 rm, .int .i64 tr] W fun e w' => ∃ G, e = .returned (ptr G) ∧ Below W.heap.size W w' ∧ Aside0 (BI N (fun _ => False) w' G (b0 ag rm tr)) := by
  have hq := new_I ag rm N W hN ⟨h1, h2⟩
  have hmm := @run_makeMap Try.prog
  have HI := Aside0.mk (Inv.b0 h1 h2 h3)
  have k1 : ¬ tr < 0 := by omega
  have k2 : ¬ 9 < tr := by omega
  have HN := Aside0.mk hN
  clear h1 h2 h3 hN
  go_enter Try.func8, Try.ntmps8
  go_wp2_with (first
    | (go_at_call 33; refine hq.mono ?_; clear hq; rintro e w1 ⟨B, rfl, hb1, hq1⟩)
    | (go_at_call 34; refine (tnew_calls _).mono ?_; rintro e w2 ⟨T, ma, mo, rfl, hb2, ht2, hk2⟩))
  go_ret
  have hs3 : (w2.alloc (.map #[] 0)).heap.size = w2.heap.size + 1 := by simp
  have hb3 : Below w2.heap.size w2 (w2.alloc (.map #[] 0)) := below_alloc (Below.refl _ _) _
  generalize hw4 : (w2.alloc (.map #[] 0)).alloc (.cells #[ptr B, .int .i64 rm, .int .i64 tr, ptr T, .map (some w2.heap.size)] 72) = w4
  have hb4 : Below (w2.alloc (.map #[] 0)).heap.size (w2.alloc (.map #[] 0)) w4 := by rw [← hw4]; exact below_alloc (Below.refl _ _) _
  have hg4 : w4.heap[w2.heap.size + 1]? = some (.cells #[ptr B, .int .i64 rm, .int .i64 tr, ptr T, .map (some w2.heap.size)] 72 (0, 0)) := by
    have h := blk_new (w2.alloc (.map #[] 0)) (.cells #[ptr B, .int .i64 rm, .int .i64 tr, ptr T, .map (some w2.heap.size)] 72)
    rw [hw4, hs3] at h
    exact h
  have hs4 := blk_lt hg4
  have hb24 := below_step hb3 hb4
  have hb14 := below_step hb2 hb24
  have h12 := hb2.size
  have hNW := Nat.le_trans HN.out hb1.size
  have hka := hk2 ma (.inr (.inl rfl))
  have hko := hk2 mo (.inr (.inr rfl))
  have hkT := hk2 T (.inl rfl)
  have hin : ∀ k, BX (fun _ => False) (w2.heap.size + 1) T w2.heap.size ma mo k → w1.heap.size ≤ k ∧ k < w4.heap.size := by
    rintro k (h | rfl | rfl | h)
    · exact h.elim
    · omega
    · omega
    · have := hk2 k h; omega
  refine ⟨_, rfl, below_step hb1 hb14, ⟨⟨⟨B, T, w2.heap.size, ma, mo, ⟨hg4, ht2.step hb24, QI.sub (hq1.more hb14 hin) (fun k hk => .inr hk), ?_, fun k hk => ?_, by omega, by omega, by omega⟩⟩, HI.out⟩⟩⟩
  · exact ((MI.made eJc w2).fr (F := fun _ => False) (Fr.of_below hb4) (fun h => h)).congr (fun _ => rfl)
  · exact ⟨Nat.le_trans hNW (hin k (.inr hk)).1, fun h => h⟩
section
variable {N : Nat} {X : Nat → Prop} {W W' : World} {G : Nat} {b : Book}
/-! ### Open, Count, Waits, State, Lease -/
set_option maxHeartbeats 4000000 in
set_option maxRecDepth 100000 in
theorem open_B (h : BI N X W G b) : Calls Try.prog 11 #[ptr G] W fun e w' => e = .returned (.int .i64 (b.Js.length : Int)) ∧ Below W.heap.size W w' := by
  obtain ⟨⟨B, T, mj, ma, mo, h1⟩, h2⟩ := h
  have c4 := h1.c4
  have hl := h1.j.len ekJc 3
  clear h1 h2
  go_enter Try.func11, Try.ntmps11
  go_wp2
  go_ret
  exact ⟨rfl, Below.refl _ _⟩
set_option maxHeartbeats 4000000 in
set_option maxRecDepth 100000 in
theorem count_B (h : BI N X W G b) : Calls Try.prog 32 #[ptr G] W fun e w' => e = .returned (.int .i64 b.ct) ∧ BI N X w' G b ∧ Fr (KX N X) W w' := by
  obtain ⟨⟨B, T, mj, ma, mo, h1⟩, h2⟩ := h
  have c0 := h1.c0
  have hc := count_I h1.q
  have H1 := Aside0.mk h1
  have H2 := Aside0.mk h2
  clear h1 h2
  go_enter Try.func32, Try.ntmps32
  go_wp2_with (go_at_call 56; refine hc.mono ?_; rintro e w1 ⟨rfl, hq, hf⟩)
  go_ret
  obtain ⟨k1, k2⟩ := H1.out.queue hq hf
  exact ⟨rfl, ⟨⟨B, T, mj, ma, mo, k1⟩, H2.out⟩, k2⟩
set_option maxHeartbeats 4000000 in
set_option maxRecDepth 100000 in
theorem waits_B (h : BI N X W G b) (hl : b.L.length ≤ 90000) : Calls Try.prog 31 #[ptr G] W fun e w' => ∃ v0_ M, e = .returned v0_ ∧ M.Perm b.L ∧ Sorted b.ag M ∧ Kd.R k77 77 w' W.heap.size (fun _ => True) v0_ M ∧ Below W.heap.size W w' := by
  obtain ⟨⟨B, T, mj, ma, mo, h1⟩, h2⟩ := h
  have c0 := h1.c0
  have hc := list_I h1.q hl
  clear h1 h2
  go_enter Try.func31, Try.ntmps31
  go_wp2_with (go_at_call 55; refine hc.mono ?_; rintro e w1 ⟨v, M, rfl, k1, k2, k3, k4⟩)
  go_ret
  exact ⟨_, M, rfl, k1, k2, k3, k4⟩
set_option maxHeartbeats 4000000 in
set_option maxRecDepth 100000 in
theorem state_B (h : BI N X W G b) (id : Int) (hi : (Lit.int .i64 id).wf = true) (r : Option Jb) (hr : lk jid b.Js id = r) (s u : Int) (hs : ((r.map (fun j => j.st)).getD 0) = s) (hu : ((r.map (fun j => j.us)).getD 0) = u) (ok : Bool) (hok : r.isSome = ok) :
    Calls Try.prog 18 #[ptr G, .int .i64 id] W fun e w' => e = .returned (.tuple #[.agg #[.int .i64 s, .int .i64 u], .bool ok]) ∧ Below W.heap.size W w' := by
  obtain ⟨⟨B, T, mj, ma, mo, h1⟩, h2⟩ := h
  have hb1 : Below W.heap.size W (W.alloc (.cells #[.int .i64 0, .int .i64 0] 44)) := below_alloc (Below.refl _ _) _
  have hk := h1.step hb1
  have c4 := hk.c4
  obtain ⟨q, hq⟩ : ∃ q, ((r.map jc).map (fun x => x.cls)).getD 0 = q := ⟨_, rfl⟩
  have hlook := hk.j.look ekJc hi 0
  have e1 : eJc.val (((lk jid b.Js id).map jc).getD eJc.z) = .agg #[.int .i64 q, .int .i64 s, .int .i64 u] := by
    rw [hr, ← hs, ← hu, ← hq]
    cases r <;> rfl
  have e2 : ((lk jid b.Js id).map jc).isSome = ok := by rw [hr, Option.isSome_map]; exact hok
  rw [e1, e2] at hlook
  replace hlook : (Instr.lookup 70 (.map (some mj)) (.int .i64 id) true).run Try.prog (W.alloc (.cells #[.int .i64 0, .int .i64 0] 44)) = .ok (.tuple #[.agg #[.int .i64 q, .int .i64 s, .int .i64 u], .bool ok]) (W.alloc (.cells #[.int .i64 0, .int .i64 0] 44)) := hlook
  clear h1 h2 hk hb1 hr hs hu hq hok e1 e2
  go_enter Try.func18, Try.ntmps18
  go_wp2
  exact state_ret (g := W.heap.size) rfl rfl (blk_below (blk_new _ _) (below_alloc (Below.refl _ _) _)) ⟨rfl, below_alloc (below_alloc (Below.refl _ _) _) _⟩
end
end Go.Proofs.Ytfkebbkfmchnaaa.Bk
