/- A book of jobs in memory; jobs.New and step as calls. Conditions: the book lies in memory as told. -/
import Derived.Test.YtfkebbkfmchnaaaTb
import Derived.Test.YtfkebbkfmchnaaaBk
import Derived.Test.YtfkebbkfmchnaaaQi
import Derived.Deep.DeepCutAuto
import Derived.Deep.CutBlock
set_option linter.unusedVariables false
namespace Go.Proofs.Ytfkebbkfmchnaaa.Bk
open Go.RowKit Go.Maps Go.Proofs.Ytfkebbkfmchnaaa.PBase Go.Proofs.Ytfkebbkfmchnaaa.Cat Go.Proofs.Ytfkebbkfmchnaaa.Heap Go.Proofs.Ytfkebbkfmchnaaa.Ln Go.Proofs.Ytfkebbkfmchnaaa.Lst Go.Proofs.Ytfkebbkfmchnaaa.Mq Go.Proofs.YtfkebbkfmchnaaaW.PrintWords Go.Proofs.YtfkebbkfmchnaaaW.PrintLast Go.Proofs.YtfkebbkfmchnaaaW.PrintMore
/-! ### retry.Step, plain -/
def G (n s u : Int) : Prop := 0 ≤ n ∧ n ≤ 9 ∧ (s = 1 ∧ 0 ≤ u ∧ u ≤ n ∨ (s = 2 ∨ s = 4) ∧ 1 ≤ u ∧ u ≤ n + 1 ∨ s = 3 ∧ 1 ≤ u ∧ u ≤ n ∨ s = 5 ∧ u = n + 1)
instance (n s u : Int) : Decidable (G n s u) := by unfold G; infer_instance
theorem w64 {n : Int} (h : 0 ≤ n) (h2 : n ≤ 1000) : wrap64 n = n := by unfold wrap64; omega
theorem isIn (a b c : Int) : retry_in.f a b c = some (decide (b ≤ a ∧ a ≤ c)) := by
  unfold retry_in.f
  by_cases h : a ≥ b
  · rw [if_pos h]; congr 1; rw [decide_eq_decide]; omega
  · rw [if_neg h]; congr 1; symm; rw [decide_eq_false_iff_not]; omega
theorem good (k : Nat) (n s u : Int) : retry_Good.f (k + 1) n s u = some (decide (G n s u)) := by
  unfold retry_Good.f retry_Good.j0
  simp only [isIn, Option.bind_some, decide_eq_true_eq, beq_iff_eq]
  by_cases h : 0 ≤ n ∧ n ≤ 9
  · rw [if_pos h, w64 (by omega) (by omega)]
    repeat' split
    all_goals (congr 1; rw [Bool.eq_iff_iff]; simp only [decide_eq_true_eq, beq_iff_eq, Bool.false_eq_true]; unfold G; first | omega | (constructor <;> intro hh <;> first | exact hh.elim | omega))
  · rw [if_neg h]; congr 1; symm; rw [decide_eq_false_iff_not]; unfold G; omega
def S (n s u x : Int) : Int × Int × Bool := if G n s u then (if x = 1 ∧ s = 1 then (2, u + 1, true) else if x = 4 ∧ s = 3 then (1, u, true) else if x = 3 ∧ s = 2 then (if n < u then (5, u, true) else (3, u, true)) else if x = 2 ∧ s = 2 then (4, u, true) else (0, 0, false)) else (0, 0, false)
theorem step (k : Nat) (n s u x : Int) : retry_Step.f (k + 1) n s u x = some (S n s u x) := by
  unfold retry_Step.f retry_Step.j0 S
  simp only [good, Option.bind_some, decide_eq_true_eq]
  by_cases h : G n s u
  · have hu : wrap64 (u + 1) = u + 1 := by unfold G at h; apply w64 <;> omega
    have hs : s ≠ 0 := by unfold G at h; omega
    simp only [if_pos h, hu]
    repeat' split
    all_goals (first | rfl | omega)
  · rw [if_neg h, if_neg h]
theorem S_fetch {n u : Int} (h : 0 ≤ n ∧ n ≤ 9) (h2 : 0 ≤ u ∧ u ≤ n) : S n 1 u 1 = (2, u + 1, true) := by
  unfold S
  rw [if_pos (by unfold G; omega), if_pos (by omega)]
theorem S_answer {n u : Int} (h : 0 ≤ n ∧ n ≤ 9) (h2 : 1 ≤ u ∧ u ≤ n + 1) : S n 2 u 2 = (4, u, true) := by
  unfold S
  rw [if_pos (by unfold G; omega), if_neg (by omega), if_neg (by omega), if_neg (by omega), if_pos (by omega)]
theorem S_fail {n u : Int} (h : 0 ≤ n ∧ n ≤ 9) (h2 : 1 ≤ u ∧ u ≤ n + 1) : S n 2 u 3 = (if n < u then 5 else 3, u, true) := by
  unfold S
  rw [if_pos (by unfold G; omega), if_neg (by omega), if_neg (by omega), if_pos (by omega)]
  split <;> rfl
theorem S_rest {n u : Int} (h : 0 ≤ n ∧ n ≤ 9) (h2 : 1 ≤ u ∧ u ≤ n) : S n 3 u 4 = (1, u, true) := by
  unfold S
  rw [if_pos (by unfold G; omega), if_neg (by omega), if_pos (by omega)]
theorem S_norest {n s u : Int} (h : s ≠ 3) : S n s u 4 = (0, 0, false) := by
  unfold S
  split
  · rw [if_neg (by omega), if_neg (by omega), if_neg (by omega), if_neg (by omega)]
  · rfl
theorem step_run (n s u x s2 u2 : Int) (ok : Bool) (h : S n s u x = (s2, u2, ok)) (w : World) :
    Calls Try.prog 61 #[.int .i64 n, .agg #[.int .i64 s, .int .i64 u], .int .i64 x] w fun e w' => e = .returned (.tuple #[.agg #[.int .i64 s2, .int .i64 u2], .bool ok]) ∧ Below w.heap.size w w' := retry_Step.calls 9 n s u x s2 u2 ok w (by rw [← h]; exact step 8 n s u x)
/-! ### In memory -/
/-- A job without its number. -/
structure Jc where
  cls : Int
  st : Int
  us : Int
def jc (j : Jb) : Jc := ⟨j.cls, j.st, j.us⟩
def eJc : El Jc where
  val := fun g => .agg #[.int .i64 g.cls, .int .i64 g.st, .int .i64 g.us]
  dat := fun g => .agg [.lit (.int .i64 g.cls), .lit (.int .i64 g.st), .lit (.int .i64 g.us)]
  rd := fun v => match v with
    | .agg ⟨[.int .i64 n, .int .i64 j, .int .i64 u]⟩ => some (.agg [.lit (.int .i64 n), .lit (.int .i64 j), .lit (.int .i64 u)], [])
    | _ => none
  z := ⟨0, 0, 0⟩
  mk1 := fun x => rfl
  inv := fun v d ps h => by
    split at h
    · cases h; exact ⟨⟨_, _, _⟩, rfl, rfl⟩
    · cases h
  inj := fun x y h => by
    obtain ⟨a, b, c⟩ := x
    obtain ⟨a2, b2, c2⟩ := y
    simp only [DataW.agg.injEq, List.cons.injEq, DataW.lit.injEq, Lit.int.injEq, true_and, and_true] at h
    obtain ⟨h1, h2, h3⟩ := h
    rw [h1, h2, h3]
theorem ekJc : EK eJc 74 70 := ⟨Try.underlying70, fun w => by kernel_rfl⟩
/-- A book's blocks, and X. -/
def BX (X : Nat → Prop) (G T mj ma mo : Nat) (k : Nat) : Prop := X k ∨ k = G ∨ k = mj ∨ TF T ma mo k
/-- A book in memory, its parts. -/
structure RM (N : Nat) (X : Nat → Prop) (W : World) (G B T mj ma mo : Nat) (ag rm tr ct last : Int) (L : List S77) (f : Int → Option Jc) (c : Nat) (Ls : List Gr) : Prop where
  g : W.heap[G]? = some (.cells #[ptr B, .int .i64 rm, .int .i64 tr, ptr T, .map (some mj)] 72 (0, 0))
  t : TB W T ma mo last Ls
  q : QI N (BX X G T mj ma mo) W B ag rm ct L
  j : MI eJc W mj f c
  lo : ∀ k, k = G ∨ k = mj ∨ TF T ma mo k → N ≤ k ∧ ¬ X k
  n1 : mj ≠ ma
  n2 : mj ≠ mo
  n3 : G ≠ T
section
variable {N : Nat} {X : Nat → Prop} {W W' : World} {G B T mj ma mo : Nat} {ag rm tr ct last : Int} {L : List S77} {f : Int → Option Jc} {c : Nat} {Ls : List Gr}
theorem RM.glt (h : RM N X W G B T mj ma mo ag rm tr ct last L f c Ls) : G < W.heap.size := (Array.getElem?_eq_some_iff.1 h.g).1
theorem RM.ng (h : RM N X W G B T mj ma mo ag rm tr ct last L f c Ls) : mj ≠ G := by
  obtain ⟨es, ck, h1⟩ := h.j.blk
  exact blk_ne h1 h.g
theorem RM.nt (h : RM N X W G B T mj ma mo ag rm tr ct last L f c Ls) : mj ≠ T := by
  obtain ⟨es, ck, h1⟩ := h.j.blk
  exact blk_ne h1 h.t.t
theorem RM.nga (h : RM N X W G B T mj ma mo ag rm tr ct last L f c Ls) : ma ≠ G := by
  obtain ⟨es, ck, h1⟩ := h.t.a.blk
  exact blk_ne h1 h.g
theorem RM.ngo (h : RM N X W G B T mj ma mo ag rm tr ct last L f c Ls) : mo ≠ G := by
  obtain ⟨es, ck, h1⟩ := h.t.o.blk
  exact blk_ne h1 h.g
theorem RM.cell (h : RM N X W G B T mj ma mo ag rm tr ct last L f c Ls) (i : Nat) : W.cell? ⟨G, i, none⟩ = (#[ptr B, .int .i64 rm, .int .i64 tr, ptr T, .map (some mj)] : Array Value)[i]? := cell_of_row W G i _ 72 (0, 0) h.g
theorem RM.c0 (h : RM N X W G B T mj ma mo ag rm tr ct last L f c Ls) : W.cell? ⟨G, 0, none⟩ = some (ptr B) := h.cell 0
theorem RM.c1 (h : RM N X W G B T mj ma mo ag rm tr ct last L f c Ls) : W.cell? ⟨G, 1, none⟩ = some (.int .i64 rm) := h.cell 1
theorem RM.c2 (h : RM N X W G B T mj ma mo ag rm tr ct last L f c Ls) : W.cell? ⟨G, 2, none⟩ = some (.int .i64 tr) := h.cell 2
theorem RM.c3 (h : RM N X W G B T mj ma mo ag rm tr ct last L f c Ls) : W.cell? ⟨G, 3, none⟩ = some (ptr T) := h.cell 3
theorem RM.c4 (h : RM N X W G B T mj ma mo ag rm tr ct last L f c Ls) : W.cell? ⟨G, 4, none⟩ = some (.map (some mj)) := h.cell 4
theorem RM.congr {f2 : Int → Option Jc} {c2 : Nat} {Ls2} (h : RM N X W G B T mj ma mo ag rm tr ct last L f c Ls) (hf : ∀ x, f x = f2 x) (hc : c = c2) (hl : Ls = Ls2) : RM N X W G B T mj ma mo ag rm tr ct last L f2 c2 Ls2 := by
  subst hc hl
  exact { h with j := h.j.congr hf }
/-- The queue's calls. -/
theorem RM.queue {ct2 : Int} {L2 : List S77} (h : RM N X W G B T mj ma mo ag rm tr ct last L f c Ls) (hq : QI N (BX X G T mj ma mo) W' B ag rm ct2 L2) (hf : Fr (KX N (BX X G T mj ma mo)) W W') : RM N X W' G B T mj ma mo ag rm tr ct2 last L2 f c Ls ∧ Fr (KX N X) W W' := by
  have hn : ∀ k, k = G ∨ k = mj ∨ TF T ma mo k → ¬ KX N (BX X G T mj ma mo) k := fun k hk e => e.2 (.inr hk)
  refine ⟨⟨(hf.blk G h.glt (hn G (.inl rfl))).trans h.g, h.t.fr hf (fun k hk => hn k (.inr (.inr hk))), hq, h.j.fr hf (hn mj (.inr (.inl rfl))), h.lo, h.n1, h.n2, h.n3⟩, hf.weak (fun k hk => ⟨hk.1, fun hx => hk.2 (.inl hx)⟩)⟩
/-- The table's. -/
theorem RM.table {last2 : Int} {Ls2 : List Gr} (h : RM N X W G B T mj ma mo ag rm tr ct last L f c Ls) (ht : TB W' T ma mo last2 Ls2) (hf : Fr (TF T ma mo) W W') : RM N X W' G B T mj ma mo ag rm tr ct last2 L f c Ls2 ∧ Fr (KX N X) W W' := by
  refine ⟨⟨(hf.blk G h.glt ?_).trans h.g, ht, h.q.keep (hf.weak (fun k hk => .inr (.inr (.inr hk)))), h.j.fr hf ?_, h.lo, h.n1, h.n2, h.n3⟩, hf.weak (fun k hk => h.lo k (.inr (.inr hk)))⟩
  · rintro (e | e | e)
    · exact h.n3 e
    · exact h.nga e.symm
    · exact h.ngo e.symm
  · rintro (e | e | e)
    · exact h.nt e
    · exact h.n1 e
    · exact h.n2 e
/-- The map's. -/
theorem RM.open_ {f2 : Int → Option Jc} {c2 : Nat} (h : RM N X W G B T mj ma mo ag rm tr ct last L f c Ls) (hj : MI eJc W' mj f2 c2) (hf : Fr (fun k => k = mj) W W') : RM N X W' G B T mj ma mo ag rm tr ct last L f2 c2 Ls ∧ Fr (KX N X) W W' := by
  refine ⟨⟨(hf.blk G h.glt (fun e => h.ng e.symm)).trans h.g, h.t.fr hf ?_, h.q.keep (hf.weak (fun k hk => .inr (.inr (.inl hk)))), hj, h.lo, h.n1, h.n2, h.n3⟩, hf.weak (fun k hk => h.lo k (.inr (.inl hk)))⟩
  rintro k (rfl | rfl | rfl) e
  · exact h.nt e.symm
  · exact h.n1 e.symm
  · exact h.n2 e.symm
theorem RM.step (h : RM N X W G B T mj ma mo ag rm tr ct last L f c Ls) (hb : Below W.heap.size W W') : RM N X W' G B T mj ma mo ag rm tr ct last L f c Ls :=
  have hf : Fr (fun _ => False) W W' := Fr.of_below hb
  ⟨(hf.blk G h.glt (fun h => h)).trans h.g, h.t.step hb, h.q.step hb, h.j.fr hf (fun h => h), h.lo, h.n1, h.n2, h.n3⟩
/-! ### step -/
theorem step_ret {Q : Ending → World → Prop} {tmps : Array Value} {W : World} {s u : Int} {b : Bool} {g : Nat} (hg : tmps.getD 6 undef = ptr g) (he : tmps.getD 7 undef = .bool b) (hb : W.heap[g]? = some (.cells #[.int .i64 s, .int .i64 u] 44 (0, 0))) (hQ : Q (.returned (.tuple #[.agg #[.int .i64 s, .int .i64 u], .bool b])) W) : bodyPost Try.prog Try.f37 Q Exit.ret { tmps := tmps, defers := [] } W :=
  bodyPost_ret (v := .tuple #[.agg #[.int .i64 s, .int .i64 u], .bool b]) (by rw [← he]; exact results_ct (fn := Try.f37) rfl tmps W g 44 _ (0, 0) _ hg hb Try.underlying44 rfl (by kernel_rfl)) rfl hQ
set_option maxHeartbeats 4000000 in
set_option maxRecDepth 100000 in
theorem step_none (h : RM N X W G B T mj ma mo ag rm tr ct last L f c Ls) (id what : Int) (hi : (Lit.int .i64 id).wf = true) (hf : f id = none) :
    Calls Try.prog 37 #[ptr G, .int .i64 id, .int .i64 what] W fun e w' => e = .returned (.tuple #[.agg #[.int .i64 0, .int .i64 0], .bool false]) ∧ Below W.heap.size W w' := by
  have hb1 : Below W.heap.size W (W.alloc (.cells #[.int .i64 0, .int .i64 0] 44)) := below_alloc (Below.refl _ _) _
  have h1 := h.step hb1
  have c4 := h1.c4
  have hlook := h1.j.look ekJc hi 0
  rw [hf] at hlook
  replace hlook : (Instr.lookup 70 (.map (some mj)) (.int .i64 id) true).run Try.prog (W.alloc (.cells #[.int .i64 0, .int .i64 0] 44)) = .ok (.tuple #[.agg #[.int .i64 0, .int .i64 0, .int .i64 0], .bool false]) (W.alloc (.cells #[.int .i64 0, .int .i64 0] 44)) := hlook
  clear h h1 hb1 hf
  go_enter Try.func37, Try.ntmps37
  go_wp2
  exact step_ret (s := 0) (u := 0) (g := W.heap.size) rfl rfl (blk_below (blk_new _ _) (below_alloc (Below.refl _ _) _)) ⟨rfl, below_alloc (below_alloc (Below.refl _ _) _) _⟩
set_option maxHeartbeats 8000000 in
set_option maxRecDepth 100000 in
theorem step_bad (h : RM N X W G B T mj ma mo ag rm tr ct last L f c Ls) (id what : Int) (hi : (Lit.int .i64 id).wf = true) (x : Jc) (hf : f id = some x) (hS : S tr x.st x.us what = (0, 0, false)) :
    Calls Try.prog 37 #[ptr G, .int .i64 id, .int .i64 what] W fun e w' => e = .returned (.tuple #[.agg #[.int .i64 0, .int .i64 0], .bool false]) ∧ Below W.heap.size W w' := by
  have hb1 : Below W.heap.size W (W.alloc (.cells #[.int .i64 0, .int .i64 0] 44)) := below_alloc (Below.refl _ _) _
  have h1 := h.step hb1
  have c4 := h1.c4
  have hlook := h1.j.look ekJc hi 0
  rw [hf] at hlook
  replace hlook : (Instr.lookup 70 (.map (some mj)) (.int .i64 id) true).run Try.prog (W.alloc (.cells #[.int .i64 0, .int .i64 0] 44)) = .ok (.tuple #[.agg #[.int .i64 x.cls, .int .i64 x.st, .int .i64 x.us], .bool true]) (W.alloc (.cells #[.int .i64 0, .int .i64 0] 44)) := hlook
  have hSS := Aside0.mk hS
  have H0 := Aside0.mk h
  have H1 := Aside0.mk h1
  have HF := Aside0.mk hf
  clear h h1 hb1 hf hS
  go_enter Try.func37, Try.ntmps37
  go_upto_region 4 with (fail)
  generalize hW2 : ((W.alloc (.cells #[.int .i64 0, .int .i64 0] 44)).alloc (.cells #[.int .i64 x.cls, .int .i64 x.st, .int .i64 x.us] 74)) = W2
  have hbW : Below W.heap.size W W2 := by rw [← hW2]; exact below_alloc (below_alloc (Below.refl _ _) _) _
  have hb2 : Below (W.alloc (.cells #[.int .i64 0, .int .i64 0] 44)).heap.size (W.alloc (.cells #[.int .i64 0, .int .i64 0] 44)) W2 := by rw [← hW2]; exact below_alloc (Below.refl _ _) _
  have hx6 : W2.heap[W.heap.size]? = some (.cells #[.int .i64 0, .int .i64 0] 44 (0, 0)) := by rw [← hW2]; exact blk_below (blk_new _ _) (below_alloc (Below.refl _ _) _)
  have hx8 : W2.heap[W.heap.size + 1]? = some (.cells #[.int .i64 x.cls, .int .i64 x.st, .int .i64 x.us] 74 (0, 0)) := by
    have h3 := blk_new (W.alloc (.cells #[.int .i64 0, .int .i64 0] 44)) (.cells #[.int .i64 x.cls, .int .i64 x.st, .int .i64 x.us] 74)
    rw [hW2, show (W.alloc (.cells #[.int .i64 0, .int .i64 0] 44)).heap.size = W.heap.size + 1 from by simp] at h3
    exact h3
  have H2 := Aside0.mk (H1.out.step hb2)
  have kp : Aside0 (∀ w', Below W2.heap.size W2 w' → w'.cell? ⟨G, 2, none⟩ = some (.int .i64 tr) ∧ w'.cell? ⟨W.heap.size + 1, 1, none⟩ = some (.int .i64 x.st) ∧ w'.cell? ⟨W.heap.size + 1, 2, none⟩ = some (.int .i64 x.us)) := ⟨fun w' hb => ⟨(H2.out.step hb).c2, (blk_cell (blk_below hx8 hb) 1).trans rfl, (blk_cell (blk_below hx8 hb) 2).trans rfl⟩⟩
  clear hW2 H1 hb2 hlook c4
  go_cut [9, 10] (fun v9 v10 wx => v9 = .bool false ∧ ∃ k, v10 = ptr k ∧ W2.heap.size ≤ k ∧ wx.heap[k]? = some (.cells #[.int .i64 0, .int .i64 0] 44 (0, 0)) ∧ Below W2.heap.size W2 wx)
  case first =>
    as_aux_lemma =>
    go_region_held3 (fun w' => w'.cell? ⟨G, 2, none⟩ = some (.int .i64 tr) ∧ w'.cell? ⟨W.heap.size + 1, 1, none⟩ = some (.int .i64 x.st) ∧ w'.cell? ⟨W.heap.size + 1, 2, none⟩ = some (.int .i64 x.us)) (first | exact kp.out _ (below_drew1 (Below.refl _ _)) | exact kp.out _ (below_step (below_drew1 (Below.refl _ _)) hb5) | exact kp.out _ (below_alloc (below_step (below_drew1 (Below.refl _ _)) hb5) _) | exact kp.out _ (below_drew1 (below_alloc (Below.refl _ _) _)) | exact kp.out _ (below_step (below_drew1 (below_alloc (Below.refl _ _) _)) hb5) | exact kp.out _ (below_set (below_set (below_step (below_drew1 (below_alloc (Below.refl _ _) _)) hb5) (Nat.le_refl _)) (Nat.le_refl _))) (first | (go_at_call 61; refine (step_run _ _ _ _ _ _ _ hSS.out _).mono ?_; rintro e w5 ⟨rfl, hb5⟩; try (have hx9 := Aside0.mk (blk_below (show (W2.alloc (.cells #[.int .i64 0, .int .i64 0] 44)).drew.heap[W2.heap.size]? = _ from blk_new _ _) hb5); have hs0 := (blk_cell hx9.out 0).trans rfl; have hs1 := (blk_cell hx9.out 1).trans rfl; have hf0 := blk_frozen hx9.out 0; have hf1 := blk_frozen hx9.out 1)))
    · go_wp2_with (fail)
      go_meet
      exact ⟨rfl, _, rfl, hb5.size, blk_new _ _, below_alloc (below_step (below_drew1 (Below.refl _ _)) hb5) _⟩
    · go_wp2_with (fail)
      go_meet
      exact ⟨rfl, _, rfl, Nat.le_refl _, blk_put (blk_put hx9.out 0 _ rfl) 1 _ rfl, below_set (below_set (below_step (below_drew1 (below_alloc (Below.refl _ _) _)) hb5) (Nat.le_refl _)) (Nat.le_refl _)⟩
  case rest =>
    as_aux_lemma =>
    obtain ⟨rfl, k, rfl, hk, hxk, hbx⟩ := hcut
    clear kp
    have hsz2 : W.heap.size + 2 ≤ W2.heap.size := by have := blk_lt hx8; omega
    have hy6 := blk_below hx6 hbx
    have hy8 := blk_below hx8 hbx
    have hs0 := (blk_cell hy6 0).trans rfl
    have hs1 := (blk_cell hy6 1).trans rfl
    have hf0 := blk_frozen hy6 0
    have hf1 := blk_frozen hy6 1
    have hy6 := Aside0.mk hy6
    have hbb := Aside0.mk (below_step hbW hbx)
    go_wp2
    exact step_ret (s := 0) (u := 0) (g := W.heap.size) rfl rfl (blk_put (blk_put hy6.out 0 _ rfl) 1 _ rfl) ⟨rfl, below_set (below_set hbb.out (Nat.le_refl _)) (Nat.le_refl _)⟩
set_option maxHeartbeats 8000000 in
set_option maxRecDepth 100000 in
theorem step_go (h : RM N X W G B T mj ma mo ag rm tr ct last L f c Ls) (id what : Int) (hi : (Lit.int .i64 id).wf = true) (x : Jc) (hf : f id = some x) (s2 u2 : Int) (hS : S tr x.st x.us what = (s2, u2, true)) (h4 : ¬ s2 = 4) (h5 : ¬ s2 = 5) (hc : c < maxLen) :
    Calls Try.prog 37 #[ptr G, .int .i64 id, .int .i64 what] W fun e w' => e = .returned (.tuple #[.agg #[.int .i64 s2, .int .i64 u2], .bool true]) ∧ Aside0 (MI eJc w' mj (upd f id (some ⟨x.cls, s2, u2⟩)) c ∧ Fr (fun k => k = mj) W w') := by
  have hb1 : Below W.heap.size W (W.alloc (.cells #[.int .i64 0, .int .i64 0] 44)) := below_alloc (Below.refl _ _) _
  have h1 := h.step hb1
  have c4 := h1.c4
  have hlook := h1.j.look ekJc hi 0
  rw [hf] at hlook
  replace hlook : (Instr.lookup 70 (.map (some mj)) (.int .i64 id) true).run Try.prog (W.alloc (.cells #[.int .i64 0, .int .i64 0] 44)) = .ok (.tuple #[.agg #[.int .i64 x.cls, .int .i64 x.st, .int .i64 x.us], .bool true]) (W.alloc (.cells #[.int .i64 0, .int .i64 0] 44)) := hlook
  have hSS := Aside0.mk hS
  have H0 := Aside0.mk h
  have H1 := Aside0.mk h1
  have HF := Aside0.mk hf
  clear h h1 hb1 hf hS
  go_enter Try.func37, Try.ntmps37
  go_upto_region 4 with (fail)
  generalize hW2 : ((W.alloc (.cells #[.int .i64 0, .int .i64 0] 44)).alloc (.cells #[.int .i64 x.cls, .int .i64 x.st, .int .i64 x.us] 74)) = W2
  have hbW : Below W.heap.size W W2 := by rw [← hW2]; exact below_alloc (below_alloc (Below.refl _ _) _) _
  have hb2 : Below (W.alloc (.cells #[.int .i64 0, .int .i64 0] 44)).heap.size (W.alloc (.cells #[.int .i64 0, .int .i64 0] 44)) W2 := by rw [← hW2]; exact below_alloc (Below.refl _ _) _
  have hx6 : W2.heap[W.heap.size]? = some (.cells #[.int .i64 0, .int .i64 0] 44 (0, 0)) := by rw [← hW2]; exact blk_below (blk_new _ _) (below_alloc (Below.refl _ _) _)
  have hx8 : W2.heap[W.heap.size + 1]? = some (.cells #[.int .i64 x.cls, .int .i64 x.st, .int .i64 x.us] 74 (0, 0)) := by
    have h3 := blk_new (W.alloc (.cells #[.int .i64 0, .int .i64 0] 44)) (.cells #[.int .i64 x.cls, .int .i64 x.st, .int .i64 x.us] 74)
    rw [hW2, show (W.alloc (.cells #[.int .i64 0, .int .i64 0] 44)).heap.size = W.heap.size + 1 from by simp] at h3
    exact h3
  have H2 := Aside0.mk (H1.out.step hb2)
  have kp : Aside0 (∀ w', Below W2.heap.size W2 w' → w'.cell? ⟨G, 2, none⟩ = some (.int .i64 tr) ∧ w'.cell? ⟨W.heap.size + 1, 1, none⟩ = some (.int .i64 x.st) ∧ w'.cell? ⟨W.heap.size + 1, 2, none⟩ = some (.int .i64 x.us)) := ⟨fun w' hb => ⟨(H2.out.step hb).c2, (blk_cell (blk_below hx8 hb) 1).trans rfl, (blk_cell (blk_below hx8 hb) 2).trans rfl⟩⟩
  clear hW2 H1 hb2 hlook c4
  go_cut [9, 10] (fun v9 v10 wx => v9 = .bool true ∧ ∃ k, v10 = ptr k ∧ W2.heap.size ≤ k ∧ wx.heap[k]? = some (.cells #[.int .i64 s2, .int .i64 u2] 44 (0, 0)) ∧ Below W2.heap.size W2 wx)
  case first =>
    as_aux_lemma =>
    go_region_held3 (fun w' => w'.cell? ⟨G, 2, none⟩ = some (.int .i64 tr) ∧ w'.cell? ⟨W.heap.size + 1, 1, none⟩ = some (.int .i64 x.st) ∧ w'.cell? ⟨W.heap.size + 1, 2, none⟩ = some (.int .i64 x.us)) (first | exact kp.out _ (below_drew1 (Below.refl _ _)) | exact kp.out _ (below_step (below_drew1 (Below.refl _ _)) hb5) | exact kp.out _ (below_alloc (below_step (below_drew1 (Below.refl _ _)) hb5) _) | exact kp.out _ (below_drew1 (below_alloc (Below.refl _ _) _)) | exact kp.out _ (below_step (below_drew1 (below_alloc (Below.refl _ _) _)) hb5) | exact kp.out _ (below_set (below_set (below_step (below_drew1 (below_alloc (Below.refl _ _) _)) hb5) (Nat.le_refl _)) (Nat.le_refl _))) (first | (go_at_call 61; refine (step_run _ _ _ _ _ _ _ hSS.out _).mono ?_; rintro e w5 ⟨rfl, hb5⟩; try (have hx9 := Aside0.mk (blk_below (show (W2.alloc (.cells #[.int .i64 0, .int .i64 0] 44)).drew.heap[W2.heap.size]? = _ from blk_new _ _) hb5); have hs0 := (blk_cell hx9.out 0).trans rfl; have hs1 := (blk_cell hx9.out 1).trans rfl; have hf0 := blk_frozen hx9.out 0; have hf1 := blk_frozen hx9.out 1)))
    · go_wp2_with (fail)
      go_meet
      exact ⟨rfl, _, rfl, hb5.size, blk_new _ _, below_alloc (below_step (below_drew1 (Below.refl _ _)) hb5) _⟩
    · go_wp2_with (fail)
      go_meet
      exact ⟨rfl, _, rfl, Nat.le_refl _, blk_put (blk_put hx9.out 0 _ rfl) 1 _ rfl, below_set (below_set (below_step (below_drew1 (below_alloc (Below.refl _ _) _)) hb5) (Nat.le_refl _)) (Nat.le_refl _)⟩
  case rest =>
    as_aux_lemma =>
    obtain ⟨rfl, k, rfl, hk, hxk, hbx⟩ := hcut
    clear kp
    have hsz2 : W.heap.size + 2 ≤ W2.heap.size := by have := blk_lt hx8; omega
    have hy6 := blk_below hx6 hbx
    have hy8 := blk_below hx8 hbx
    have hbw := below_step hbW hbx
    obtain ⟨w7, hw7⟩ : ∃ w7, (wc.setCell ⟨W.heap.size + 1, 1, none⟩ (.int .i64 s2)).setCell ⟨W.heap.size + 1, 2, none⟩ (.int .i64 u2) = w7 := ⟨_, rfl⟩
    have hb7 : Below W.heap.size W w7 := by rw [← hw7]; exact below_set (below_set hbw (Nat.le_succ _)) (Nat.le_succ _)
    have hx78 : w7.heap[W.heap.size + 1]? = some (.cells #[.int .i64 x.cls, .int .i64 s2, .int .i64 u2] 74 (0, 0)) := by rw [← hw7]; exact blk_put (blk_put hy8 1 _ rfl) 2 _ rfl
    have hx76 : w7.heap[W.heap.size]? = some (.cells #[.int .i64 0, .int .i64 0] 44 (0, 0)) := by rw [← hw7]; exact blk_far (blk_far hy6 (by show W.heap.size ≠ W.heap.size + 1; omega) _) (by show W.heap.size ≠ W.heap.size + 1; omega) _
    have hx7k : w7.heap[k]? = some (.cells #[.int .i64 s2, .int .i64 u2] 44 (0, 0)) := by rw [← hw7]; exact blk_far (blk_far hxk (by show k ≠ W.heap.size + 1; omega) _) (by show k ≠ W.heap.size + 1; omega) _
    have H7 := H0.out.step hb7
    have hjl : mj < W.heap.size := H0.out.j.lt
    obtain ⟨w8, hrun8, hM8, ht8⟩ := (H7.j.fr (F := fun _ => False) (fr_drew w7) (fun h => h)).store ekJc hc ⟨x.cls, s2, u2⟩ hi
    replace hrun8 : (Instr.mapUpdate 70 (.map (some mj)) (.int .i64 id) (.agg #[.int .i64 x.cls, .int .i64 s2, .int .i64 u2])).run Try.prog w7.drew = .ok () w8 := hrun8
    have hF8 : Fr (fun k => k = mj) w7 w8 := fr_trans (fr_drew w7) (Fr.of_turned ht8)
    have kp7 : Aside0 (∀ w', Fr (fun k => k = mj) w7 w' → w'.cell? ⟨G, 4, none⟩ = some (.map (some mj)) ∧ w'.cell? ⟨W.heap.size + 1, 0, none⟩ = some (.int .i64 x.cls) ∧ w'.cell? ⟨W.heap.size + 1, 1, none⟩ = some (.int .i64 s2) ∧ w'.cell? ⟨W.heap.size + 1, 2, none⟩ = some (.int .i64 u2)) := ⟨fun w' hf => ⟨hf.cell H7.c4 (fun e => H0.out.ng e.symm), hf.cell (cell_of_row w7 _ 0 _ 74 (0, 0) hx78) (by show ¬ W.heap.size + 1 = mj; omega), hf.cell (cell_of_row w7 _ 1 _ 74 (0, 0) hx78) (by show ¬ W.heap.size + 1 = mj; omega), hf.cell (cell_of_row w7 _ 2 _ 74 (0, 0) hx78) (by show ¬ W.heap.size + 1 = mj; omega)⟩⟩
    have hx8k := (hF8.blk k (blk_lt hx7k) (by show ¬ k = mj; omega)).trans hx7k
    have hx86 := (hF8.blk W.heap.size (blk_lt hx76) (by show ¬ W.heap.size = mj; omega)).trans hx76
    have hxkc := And.intro ((blk_cell hxk 0).trans rfl) ((blk_cell hxk 1).trans rfl)
    have c0k := hxkc.1
    have c1k := hxkc.2
    have d0k := (blk_cell hx8k 0).trans rfl
    have d1k := (blk_cell hx8k 1).trans rfl
    have fz1 := blk_frozen hy8 1
    have fz2 := blk_frozen hy8 2
    have fz8 := blk_frozen hx86 0
    have fz9 := blk_frozen hx86 1
    have r0 := (blk_cell hx86 0).trans rfl
    have r1 := (blk_cell hx86 1).trans rfl
    have l1 := (blk_cell hy8 1).trans rfl
    have l2 := (blk_cell hy8 2).trans rfl
    have hF8 := Aside0.mk hF8
    have hb7 := Aside0.mk hb7
    have hM8 := Aside0.mk hM8
    have hx86 := Aside0.mk hx86
    have hx8k := Aside0.mk hx8k
    have H7 := Aside0.mk H7
    clear hxk hy6 hy8 hx76 hx78 hx7k hxkc ht8 hbw hx6 hx8 hbx hbW
    go_upto_region 8 with (fail)
    clear hw7 c0k c1k fz1 fz2 l1 l2
    go_region_held3 (fun w' => w'.cell? ⟨G, 4, none⟩ = some (.map (some mj)) ∧ w'.cell? ⟨W.heap.size + 1, 0, none⟩ = some (.int .i64 x.cls) ∧ w'.cell? ⟨W.heap.size + 1, 1, none⟩ = some (.int .i64 s2) ∧ w'.cell? ⟨W.heap.size + 1, 2, none⟩ = some (.int .i64 u2)) (first | exact kp7.out _ (fr_drew _) | exact kp7.out _ hF8.out) (fail)
    have q4 : (s2 == 4) = false := beq_eq_false_iff_ne.2 h4
    have q5 : (s2 == 5) = false := beq_eq_false_iff_ne.2 h5
    go_wp2
    have hE : Fr (fun k => k = W.heap.size) w8 ((w8.setCell ⟨W.heap.size, 0, none⟩ (.int .i64 s2)).setCell ⟨W.heap.size, 1, none⟩ (.int .i64 u2)) := fr_trans (fr_set _ _ _ _) (fr_set _ _ _ _)
    refine step_ret (s := s2) (u := u2) (g := W.heap.size) rfl rfl (blk_put (blk_put hx86.out 0 _ rfl) 1 _ rfl) ⟨rfl, ⟨?_, Fr.then_ (fr_trans (Fr.of_below hb7.out) hF8.out) hE (fun b hb => .inr (Nat.le_of_eq hb.symm))⟩⟩
    have h9 := hM8.out.fr hE (by show ¬ mj = W.heap.size; omega)
    rw [HF.out] at h9
    exact h9
set_option maxHeartbeats 8000000 in
set_option maxRecDepth 100000 in
theorem step_end (h : RM N X W G B T mj ma mo ag rm tr ct last L f c Ls) (id what : Int) (hi : (Lit.int .i64 id).wf = true) (x : Jc) (hf : f id = some x) (s2 u2 : Int) (hS : S tr x.st x.us what = (s2, u2, true)) (h45 : s2 = 4 ∨ s2 = 5) (hc : c < maxLen) :
    Calls Try.prog 37 #[ptr G, .int .i64 id, .int .i64 what] W fun e w' => e = .returned (.tuple #[.agg #[.int .i64 s2, .int .i64 u2], .bool true]) ∧ Aside0 (MI eJc w' mj (upd f id none) (c - 1) ∧ Fr (fun k => k = mj) W w') := by
  have hb1 : Below W.heap.size W (W.alloc (.cells #[.int .i64 0, .int .i64 0] 44)) := below_alloc (Below.refl _ _) _
  have h1 := h.step hb1
  have c4 := h1.c4
  have hlook := h1.j.look ekJc hi 0
  rw [hf] at hlook
  replace hlook : (Instr.lookup 70 (.map (some mj)) (.int .i64 id) true).run Try.prog (W.alloc (.cells #[.int .i64 0, .int .i64 0] 44)) = .ok (.tuple #[.agg #[.int .i64 x.cls, .int .i64 x.st, .int .i64 x.us], .bool true]) (W.alloc (.cells #[.int .i64 0, .int .i64 0] 44)) := hlook
  have hSS := Aside0.mk hS
  have H0 := Aside0.mk h
  have H1 := Aside0.mk h1
  have HF := Aside0.mk hf
  clear h h1 hb1 hf hS
  go_enter Try.func37, Try.ntmps37
  go_upto_region 4 with (fail)
  generalize hW2 : ((W.alloc (.cells #[.int .i64 0, .int .i64 0] 44)).alloc (.cells #[.int .i64 x.cls, .int .i64 x.st, .int .i64 x.us] 74)) = W2
  have hbW : Below W.heap.size W W2 := by rw [← hW2]; exact below_alloc (below_alloc (Below.refl _ _) _) _
  have hb2 : Below (W.alloc (.cells #[.int .i64 0, .int .i64 0] 44)).heap.size (W.alloc (.cells #[.int .i64 0, .int .i64 0] 44)) W2 := by rw [← hW2]; exact below_alloc (Below.refl _ _) _
  have hx6 : W2.heap[W.heap.size]? = some (.cells #[.int .i64 0, .int .i64 0] 44 (0, 0)) := by rw [← hW2]; exact blk_below (blk_new _ _) (below_alloc (Below.refl _ _) _)
  have hx8 : W2.heap[W.heap.size + 1]? = some (.cells #[.int .i64 x.cls, .int .i64 x.st, .int .i64 x.us] 74 (0, 0)) := by
    have h3 := blk_new (W.alloc (.cells #[.int .i64 0, .int .i64 0] 44)) (.cells #[.int .i64 x.cls, .int .i64 x.st, .int .i64 x.us] 74)
    rw [hW2, show (W.alloc (.cells #[.int .i64 0, .int .i64 0] 44)).heap.size = W.heap.size + 1 from by simp] at h3
    exact h3
  have H2 := Aside0.mk (H1.out.step hb2)
  have kp : Aside0 (∀ w', Below W2.heap.size W2 w' → w'.cell? ⟨G, 2, none⟩ = some (.int .i64 tr) ∧ w'.cell? ⟨W.heap.size + 1, 1, none⟩ = some (.int .i64 x.st) ∧ w'.cell? ⟨W.heap.size + 1, 2, none⟩ = some (.int .i64 x.us)) := ⟨fun w' hb => ⟨(H2.out.step hb).c2, (blk_cell (blk_below hx8 hb) 1).trans rfl, (blk_cell (blk_below hx8 hb) 2).trans rfl⟩⟩
  clear hW2 H1 hb2 hlook c4
  go_cut [9, 10] (fun v9 v10 wx => v9 = .bool true ∧ ∃ k, v10 = ptr k ∧ W2.heap.size ≤ k ∧ wx.heap[k]? = some (.cells #[.int .i64 s2, .int .i64 u2] 44 (0, 0)) ∧ Below W2.heap.size W2 wx)
  case first =>
    as_aux_lemma =>
    go_region_held3 (fun w' => w'.cell? ⟨G, 2, none⟩ = some (.int .i64 tr) ∧ w'.cell? ⟨W.heap.size + 1, 1, none⟩ = some (.int .i64 x.st) ∧ w'.cell? ⟨W.heap.size + 1, 2, none⟩ = some (.int .i64 x.us)) (first | exact kp.out _ (below_drew1 (Below.refl _ _)) | exact kp.out _ (below_step (below_drew1 (Below.refl _ _)) hb5) | exact kp.out _ (below_alloc (below_step (below_drew1 (Below.refl _ _)) hb5) _) | exact kp.out _ (below_drew1 (below_alloc (Below.refl _ _) _)) | exact kp.out _ (below_step (below_drew1 (below_alloc (Below.refl _ _) _)) hb5) | exact kp.out _ (below_set (below_set (below_step (below_drew1 (below_alloc (Below.refl _ _) _)) hb5) (Nat.le_refl _)) (Nat.le_refl _))) (first | (go_at_call 61; refine (step_run _ _ _ _ _ _ _ hSS.out _).mono ?_; rintro e w5 ⟨rfl, hb5⟩; try (have hx9 := Aside0.mk (blk_below (show (W2.alloc (.cells #[.int .i64 0, .int .i64 0] 44)).drew.heap[W2.heap.size]? = _ from blk_new _ _) hb5); have hs0 := (blk_cell hx9.out 0).trans rfl; have hs1 := (blk_cell hx9.out 1).trans rfl; have hf0 := blk_frozen hx9.out 0; have hf1 := blk_frozen hx9.out 1)))
    · go_wp2_with (fail)
      go_meet
      exact ⟨rfl, _, rfl, hb5.size, blk_new _ _, below_alloc (below_step (below_drew1 (Below.refl _ _)) hb5) _⟩
    · go_wp2_with (fail)
      go_meet
      exact ⟨rfl, _, rfl, Nat.le_refl _, blk_put (blk_put hx9.out 0 _ rfl) 1 _ rfl, below_set (below_set (below_step (below_drew1 (below_alloc (Below.refl _ _) _)) hb5) (Nat.le_refl _)) (Nat.le_refl _)⟩
  case rest =>
    as_aux_lemma =>
    obtain ⟨rfl, k, rfl, hk, hxk, hbx⟩ := hcut
    clear kp
    have hsz2 : W.heap.size + 2 ≤ W2.heap.size := by have := blk_lt hx8; omega
    have hy6 := blk_below hx6 hbx
    have hy8 := blk_below hx8 hbx
    have hbw := below_step hbW hbx
    obtain ⟨w7, hw7⟩ : ∃ w7, (wc.setCell ⟨W.heap.size + 1, 1, none⟩ (.int .i64 s2)).setCell ⟨W.heap.size + 1, 2, none⟩ (.int .i64 u2) = w7 := ⟨_, rfl⟩
    have hb7 : Below W.heap.size W w7 := by rw [← hw7]; exact below_set (below_set hbw (Nat.le_succ _)) (Nat.le_succ _)
    have hx78 : w7.heap[W.heap.size + 1]? = some (.cells #[.int .i64 x.cls, .int .i64 s2, .int .i64 u2] 74 (0, 0)) := by rw [← hw7]; exact blk_put (blk_put hy8 1 _ rfl) 2 _ rfl
    have hx76 : w7.heap[W.heap.size]? = some (.cells #[.int .i64 0, .int .i64 0] 44 (0, 0)) := by rw [← hw7]; exact blk_far (blk_far hy6 (by show W.heap.size ≠ W.heap.size + 1; omega) _) (by show W.heap.size ≠ W.heap.size + 1; omega) _
    have hx7k : w7.heap[k]? = some (.cells #[.int .i64 s2, .int .i64 u2] 44 (0, 0)) := by rw [← hw7]; exact blk_far (blk_far hxk (by show k ≠ W.heap.size + 1; omega) _) (by show k ≠ W.heap.size + 1; omega) _
    have H7 := H0.out.step hb7
    have hjl : mj < W.heap.size := H0.out.j.lt
    obtain ⟨w8, hrun8, hM8, ht8⟩ := (H7.j.fr (F := fun _ => False) (fr_drew w7) (fun h => h)).store ekJc hc ⟨x.cls, s2, u2⟩ hi
    replace hrun8 : (Instr.mapUpdate 70 (.map (some mj)) (.int .i64 id) (.agg #[.int .i64 x.cls, .int .i64 s2, .int .i64 u2])).run Try.prog w7.drew = .ok () w8 := hrun8
    have hF8 : Fr (fun k => k = mj) w7 w8 := fr_trans (fr_drew w7) (Fr.of_turned ht8)
    have kp7 : Aside0 (∀ w', Fr (fun k => k = mj) w7 w' → w'.cell? ⟨G, 4, none⟩ = some (.map (some mj)) ∧ w'.cell? ⟨W.heap.size + 1, 0, none⟩ = some (.int .i64 x.cls) ∧ w'.cell? ⟨W.heap.size + 1, 1, none⟩ = some (.int .i64 s2) ∧ w'.cell? ⟨W.heap.size + 1, 2, none⟩ = some (.int .i64 u2)) := ⟨fun w' hf => ⟨hf.cell H7.c4 (fun e => H0.out.ng e.symm), hf.cell (cell_of_row w7 _ 0 _ 74 (0, 0) hx78) (by show ¬ W.heap.size + 1 = mj; omega), hf.cell (cell_of_row w7 _ 1 _ 74 (0, 0) hx78) (by show ¬ W.heap.size + 1 = mj; omega), hf.cell (cell_of_row w7 _ 2 _ 74 (0, 0) hx78) (by show ¬ W.heap.size + 1 = mj; omega)⟩⟩
    have hx8k := (hF8.blk k (blk_lt hx7k) (by show ¬ k = mj; omega)).trans hx7k
    have hx86 := (hF8.blk W.heap.size (blk_lt hx76) (by show ¬ W.heap.size = mj; omega)).trans hx76
    have hxkc := And.intro ((blk_cell hxk 0).trans rfl) ((blk_cell hxk 1).trans rfl)
    have c0k := hxkc.1
    have c1k := hxkc.2
    have d0k := (blk_cell hx8k 0).trans rfl
    have d1k := (blk_cell hx8k 1).trans rfl
    have fz1 := blk_frozen hy8 1
    have fz2 := blk_frozen hy8 2
    have fz8 := blk_frozen hx86 0
    have fz9 := blk_frozen hx86 1
    have r0 := (blk_cell hx86 0).trans rfl
    have r1 := (blk_cell hx86 1).trans rfl
    have l1 := (blk_cell hy8 1).trans rfl
    have l2 := (blk_cell hy8 2).trans rfl
    have hF8 := Aside0.mk hF8
    have hb7 := Aside0.mk hb7
    have hM8 := Aside0.mk hM8
    have hx86 := Aside0.mk hx86
    have hx8k := Aside0.mk hx8k
    have H7 := Aside0.mk H7
    clear hxk hy6 hy8 hx76 hx78 hx7k hxkc ht8 hbw hx6 hx8 hbx hbW
    go_upto_region 8 with (fail)
    clear hw7 c0k c1k fz1 fz2 l1 l2
    go_region_held3 (fun w' => w'.cell? ⟨G, 4, none⟩ = some (.map (some mj)) ∧ w'.cell? ⟨W.heap.size + 1, 0, none⟩ = some (.int .i64 x.cls) ∧ w'.cell? ⟨W.heap.size + 1, 1, none⟩ = some (.int .i64 s2) ∧ w'.cell? ⟨W.heap.size + 1, 2, none⟩ = some (.int .i64 u2)) (first | exact kp7.out _ (fr_drew _) | exact kp7.out _ hF8.out) (fail)
    obtain ⟨w9, hrun9, hM9, ht9⟩ := hM8.out.drop ekJc hi 0
    have hF9 := Fr.of_turned ht9
    have hx96 := Aside0.mk ((hF9.blk W.heap.size (blk_lt hx86.out) (by show ¬ W.heap.size = mj; omega)).trans hx86.out)
    have hx9k := (hF9.blk k (blk_lt hx8k.out) (by show ¬ k = mj; omega)).trans hx8k.out
    have g4 : w8.cell? ⟨G, 4, none⟩ = some (.map (some mj)) := (kp7.out w8 hF8.out).1
    have e0k := (blk_cell hx9k 0).trans rfl
    have e1k := (blk_cell hx9k 1).trans rfl
    have fz8 := blk_frozen hx96.out 0
    have fz9 := blk_frozen hx96.out 1
    have r0 := (blk_cell hx96.out 0).trans rfl
    have r1 := (blk_cell hx96.out 1).trans rfl
    have hE : Aside0 (Fr (fun k => k = W.heap.size) w9 ((w9.setCell ⟨W.heap.size, 0, none⟩ (.int .i64 s2)).setCell ⟨W.heap.size, 1, none⟩ (.int .i64 u2))) := ⟨fr_trans (fr_set _ _ _ _) (fr_set _ _ _ _)⟩
    have hF9 := Aside0.mk hF9
    have hM9 := Aside0.mk hM9
    clear ht9 hx9k kp7
    have hfin : Aside0 (MI eJc ((w9.setCell ⟨W.heap.size, 0, none⟩ (.int .i64 s2)).setCell ⟨W.heap.size, 1, none⟩ (.int .i64 u2)) mj (upd f id none) (c - 1) ∧ Fr (fun k => k = mj) W ((w9.setCell ⟨W.heap.size, 0, none⟩ (.int .i64 s2)).setCell ⟨W.heap.size, 1, none⟩ (.int .i64 u2))) := by
      refine ⟨?_, Fr.then_ (fr_trans (fr_trans (Fr.of_below hb7.out) hF8.out) hF9.out) hE.out (fun b hb => .inr (Nat.le_of_eq hb.symm))⟩
      have h9 := hM9.out.fr hE.out (by show ¬ mj = W.heap.size; omega)
      rw [HF.out, upd_same] at h9
      replace h9 : MI eJc _ mj _ (c - 1) := h9
      refine h9.congr (fun z => ?_)
      unfold upd
      by_cases e : z = id
      · rw [if_pos e, if_pos e]
      · rw [if_neg e, if_neg e, if_neg e]
    rcases h45 with rfl | rfl
    · go_wp2
      exact step_ret (s := 4) (u := u2) (g := W.heap.size) rfl rfl (blk_put (blk_put hx96.out 0 _ rfl) 1 _ rfl) ⟨rfl, hfin⟩
    · go_wp2
      exact step_ret (s := 5) (u := u2) (g := W.heap.size) rfl rfl (blk_put (blk_put hx96.out 0 _ rfl) 1 _ rfl) ⟨rfl, hfin⟩
end
end Go.Proofs.Ytfkebbkfmchnaaa.Bk
