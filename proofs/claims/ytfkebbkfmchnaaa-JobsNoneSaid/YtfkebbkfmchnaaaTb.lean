/- lease.Table's functions as calls. Conditions: the table lies in memory as told. -/
import Derived.Test.YtfkebbkfmchnaaaMq
import Derived.Test.YtfkebbkfmchnaaaLst
import Derived.Deep.RegionHeld3
set_option linter.unusedVariables false
namespace Go.Proofs.Ytfkebbkfmchnaaa.Bk
open Go.RowKit Go.Maps Go.Proofs.Ytfkebbkfmchnaaa.PBase Go.Proofs.Ytfkebbkfmchnaaa.Cat Go.Proofs.Ytfkebbkfmchnaaa.Ln Go.Proofs.Ytfkebbkfmchnaaa.Lst Go.Proofs.Ytfkebbkfmchnaaa.Mq Go.Proofs.YtfkebbkfmchnaaaW.PrintWords Go.Proofs.YtfkebbkfmchnaaaW.PrintLast Go.Proofs.YtfkebbkfmchnaaaW.PrintMore
/-- Leases in a map. -/
def eGr : El Gr where
  val := fun g => .agg #[.int .i64 g.n, .int .i64 g.j, .int .u64 g.u]
  dat := fun g => .agg [.lit (.int .i64 g.n), .lit (.int .i64 g.j), .lit (.int .u64 g.u)]
  rd := fun v => match v with
    | .agg ⟨[.int .i64 n, .int .i64 j, .int .u64 u]⟩ => some (.agg [.lit (.int .i64 n), .lit (.int .i64 j), .lit (.int .u64 u)], [])
    | _ => none
  z := ⟨0, 0, 0⟩
  mk1 := fun x => rfl
  inv := fun v d ps h => by
    split at h
    · cases h; exact ⟨⟨_, _, _⟩, rfl, rfl⟩
    · cases h
  inj := fun x y h => by
    obtain ⟨a, b, c⟩ := x
    obtain ⟨a2, b2, c2⟩ := y
    simp only [DataW.agg.injEq, List.cons.injEq, DataW.lit.injEq, Lit.int.injEq, true_and, and_true] at h
    obtain ⟨h1, h2, h3⟩ := h
    rw [h1, h2, h3]
theorem ekGr : EK eGr 85 112 := ⟨Try.underlying112, fun w => by kernel_rfl⟩
theorem ekInt : EK eInt 3 49 := ⟨Try.underlying49, fun w => by kernel_rfl⟩
/-- A pointer to a block. -/
abbrev ptr (k : Nat) : Value := .pointer (some ⟨k, 0, none⟩)
/-- A table's blocks. -/
def TF (T ma mo : Nat) (k : Nat) : Prop := k = T ∨ k = ma ∨ k = mo
/-- A table in memory. -/
structure TB (W : World) (T ma mo : Nat) (last : Int) (Ls : List Gr) : Prop where
  t : W.heap[T]? = some (.cells #[.int .i64 last, .map (some ma), .map (some mo)] 114 (0, 0))
  a : MI eGr W ma (lk gno Ls) Ls.length
  o : MI eInt W mo (fun x => (lk gjo Ls x).map gno) Ls.length
  ne : ma ≠ mo
theorem fr_trans {F : Nat → Prop} {W W1 W2 : World} (h : Fr F W W1) (k : Fr F W1 W2) : Fr F W W2 := Fr.then_ h k (fun _ h => .inl h)
theorem fr_weak {F F2 : Nat → Prop} {W W1 : World} (h : Fr F W W1) (hF : ∀ k, F k → F2 k) : Fr F2 W W1 := ⟨h.os, h.tape, h.out, h.size, fun k hk hn => h.blk k hk (fun e => hn (hF k e))⟩
theorem fr_drew {F : Nat → Prop} (W : World) : Fr F W W.drew := ⟨rfl, rfl, rfl, Nat.le_refl _, fun _ _ _ => rfl⟩
theorem fr_set (W : World) (g j : Nat) (u : Value) : Fr (fun k => k = g) W (W.setCell ⟨g, j, none⟩ u) := ⟨rfl, rfl, rfl, by simp [World.setCell], fun k _ hn => Below.heap_setCell W ⟨g, j, none⟩ u k hn⟩
section
variable {W W' : World} {T ma mo : Nat} {last : Int} {Ls : List Gr}
theorem blk_ne {a b : Nat} {es ck cs t p} (h : W.heap[a]? = some (.map es ck)) (h2 : W.heap[b]? = some (.cells cs t p)) : a ≠ b := by
  rintro rfl
  rw [h] at h2
  cases h2
theorem TB.nea (h : TB W T ma mo last Ls) : ma ≠ T := by
  obtain ⟨es, ck, h1⟩ := h.a.blk
  exact blk_ne h1 h.t
theorem TB.neo (h : TB W T ma mo last Ls) : mo ≠ T := by
  obtain ⟨es, ck, h1⟩ := h.o.blk
  exact blk_ne h1 h.t
theorem TB.lt (h : TB W T ma mo last Ls) : T < W.heap.size := (Array.getElem?_eq_some_iff.1 h.t).1
theorem TB.fr {F : Nat → Prop} (h : TB W T ma mo last Ls) (hf : Fr F W W') (hd : ∀ k, TF T ma mo k → ¬ F k) : TB W' T ma mo last Ls :=
  ⟨(hf.blk T h.lt (hd T (.inl rfl))).trans h.t, h.a.fr hf (hd ma (.inr (.inl rfl))), h.o.fr hf (hd mo (.inr (.inr rfl))), h.ne⟩
theorem TB.step (h : TB W T ma mo last Ls) (hb : Below W.heap.size W W') : TB W' T ma mo last Ls := h.fr (F := fun _ => False) (Fr.of_below hb) (fun _ _ h => h)
theorem TB.cell (h : TB W T ma mo last Ls) (i : Nat) : W.cell? ⟨T, i, none⟩ = (#[.int .i64 last, .map (some ma), .map (some mo)] : Array Value)[i]? := cell_of_row W T i _ 114 (0, 0) h.t
theorem TB.c0 (h : TB W T ma mo last Ls) : W.cell? ⟨T, 0, none⟩ = some (.int .i64 last) := h.cell 0
theorem TB.c1 (h : TB W T ma mo last Ls) : W.cell? ⟨T, 1, none⟩ = some (.map (some ma)) := h.cell 1
theorem TB.c2 (h : TB W T ma mo last Ls) : W.cell? ⟨T, 2, none⟩ = some (.map (some mo)) := h.cell 2
set_option maxHeartbeats 4000000 in
set_option maxRecDepth 100000 in
theorem tnew_calls (W : World) : Calls Try.prog 34 #[] W fun e w' => ∃ T ma mo, e = .returned (ptr T) ∧ Below W.heap.size W w' ∧ TB w' T ma mo 0 [] ∧ ∀ k, TF T ma mo k → W.heap.size ≤ k ∧ k < w'.heap.size := by
  have hmm := @run_makeMap Try.prog
  go_enter Try.func34, Try.ntmps34
  go_wp2
  go_ret
  have hs1 : (W.alloc (.map #[] 0)).heap.size = W.heap.size + 1 := by simp
  have hs2 : ((W.alloc (.map #[] 0)).alloc (.map #[] 0)).heap.size = W.heap.size + 1 + 1 := by simp
  have hk := blk_new ((W.alloc (.map #[] 0)).alloc (.map #[] 0)) (.cells #[.int .i64 0, .map (some W.heap.size), .map (some (W.heap.size + 1))] 114)
  rw [hs2] at hk
  have hb3 := below_alloc (Below.refl ((W.alloc (.map #[] 0)).alloc (.map #[] 0)).heap.size _) (.cells #[.int .i64 0, .map (some W.heap.size), .map (some (W.heap.size + 1))] 114)
  have hm2 := MI.made eInt (W.alloc (.map #[] 0))
  rw [hs1] at hm2
  refine ⟨W.heap.size + 1 + 1, W.heap.size, W.heap.size + 1, rfl, below_alloc (below_alloc (below_alloc (Below.refl _ _) _) _) _, ⟨hk, ?_, ?_, ?_⟩, ?_⟩
  · exact (((MI.made eGr W).fr (F := fun _ => False) (Fr.of_below (below_alloc (Below.refl _ _) _)) (fun h => h)).fr (F := fun _ => False) (Fr.of_below hb3) (fun h => h)).congr (fun _ => rfl)
  · exact (hm2.fr (F := fun _ => False) (Fr.of_below hb3) (fun h => h)).congr (fun _ => rfl)
  · omega
  · rintro k (rfl | rfl | rfl) <;> simp <;> omega
theorem look_ret {Q : Ending → World → Prop} {tmps : Array Value} {W : World} {x : Gr} {b : Bool} {g : Nat} (hg : tmps.getD 4 undef = ptr g) (he : tmps.getD 5 undef = .bool b) (hb : W.heap[g]? = some (.cells #[.int .i64 x.n, .int .i64 x.j, .int .u64 x.u] 85 (0, 0))) (hQ : Q (.returned (.tuple #[.agg #[.int .i64 x.n, .int .i64 x.j, .int .u64 x.u], .bool b])) W) : bodyPost Try.prog Try.f42 Q Exit.ret { tmps := tmps, defers := [] } W :=
  bodyPost_ret (v := .tuple #[.agg #[.int .i64 x.n, .int .i64 x.j, .int .u64 x.u], .bool b]) (by rw [← he]; exact results_ct (fn := Try.f42) rfl tmps W g 85 _ (0, 0) _ hg hb Try.underlying85 rfl (by kernel_rfl)) rfl hQ
set_option maxHeartbeats 4000000 in
set_option maxRecDepth 100000 in
theorem look_calls (h : TB W T ma mo last Ls) (n : Int) (hn : (Lit.int .i64 n).wf = true) (g : Gr) (hg : (lk gno Ls n).getD eGr.z = g) (b : Bool) (hb : (lk gno Ls n).isSome = b) :
    Calls Try.prog 42 #[ptr T, .int .i64 n] W fun e w' => e = .returned (.tuple #[.agg #[.int .i64 g.n, .int .i64 g.j, .int .u64 g.u], .bool b]) ∧ Below W.heap.size W w' := by
  have hb1 : Below W.heap.size W (W.alloc (.cells #[.int .i64 0, .int .i64 0, .int .u64 0] 85)) := below_alloc (Below.refl _ _) _
  have h1 := h.step hb1
  have c1 := h1.c1
  have hlook := h1.a.look ekGr hn 0
  rw [hg, hb] at hlook
  replace hlook : (Instr.lookup 112 (.map (some ma)) (.int .i64 n) true).run Try.prog (W.alloc (.cells #[.int .i64 0, .int .i64 0, .int .u64 0] 85)) = .ok (.tuple #[.agg #[.int .i64 g.n, .int .i64 g.j, .int .u64 g.u], .bool b]) (W.alloc (.cells #[.int .i64 0, .int .i64 0, .int .u64 0] 85)) := hlook
  clear h h1 hb1 hg hb
  go_enter Try.func42, Try.ntmps42
  go_wp2
  exact look_ret (x := g) (g := W.heap.size) rfl rfl (blk_below (blk_new _ _) (below_alloc (Below.refl _ _) _)) ⟨rfl, below_alloc (below_alloc (Below.refl _ _) _) _⟩
set_option maxHeartbeats 4000000 in
set_option maxRecDepth 100000 in
theorem of_calls (h : TB W T ma mo last Ls) (j : Int) (hj : (Lit.int .i64 j).wf = true) (r : Option Int) (hr : (lk gjo Ls j).map gno = r) :
    Calls Try.prog 40 #[ptr T, .int .i64 j] W fun e w' => e = .returned (.tuple #[.int .i64 (r.getD 0), .bool r.isSome]) ∧ Below W.heap.size W w' := by
  have c2 := h.c2
  have hlook := h.o.look ekInt hj 0
  rw [hr] at hlook
  replace hlook : (Instr.lookup 49 (.map (some mo)) (.int .i64 j) true).run Try.prog W = .ok (.tuple #[.int .i64 (r.getD 0), .bool r.isSome]) W := hlook
  clear h hr
  generalize r.getD 0 = q at hlook ⊢
  generalize r.isSome = b at hlook ⊢
  go_enter Try.func40, Try.ntmps40
  go_wp2
  go_ret2
  exact ⟨rfl, Below.refl _ _⟩
set_option maxHeartbeats 4000000 in
set_option maxRecDepth 100000 in
theorem grant_calls (h : TB W T ma mo last Ls) (j u : Int) (hj : (Lit.int .i64 j).wf = true) (hnew : j ∉ Ls.map gjo) (l1 : Int) (hl1 : last + 1 = l1) (hnn : l1 ∉ Ls.map gno) (hlast : 0 ≤ last ∧ last ≤ 1000000) (hlen : Ls.length ≤ 1000000) :
    Calls Try.prog 38 #[ptr T, .int .i64 j, .int .u64 u] W fun e w' => e = .returned (.tuple #[.int .i64 l1, .int .i64 0]) ∧ Aside0 (TB w' T ma mo l1 (Ls ++ [⟨l1, j, u⟩]) ∧ Fr (TF T ma mo) W w') := by
  have c2 := h.c2
  have c0 := h.c0
  have hw1 : (Lit.int .i64 l1).wf = true := Go.WalkArith.wf_i64 (by omega)
  have hlk : lk gjo Ls j = none := lk_none.2 hnew
  have hlook := h.o.look ekInt hj 0
  rw [hlk] at hlook
  replace hlook : (Instr.lookup 49 (.map (some mo)) (.int .i64 j) true).run Try.prog W = .ok (.tuple #[.int .i64 0, .bool false]) W := hlook
  have hadd : IntKind.i64.wrap (last + 1) = l1 := by rw [hl1]; rw [i64_w]; unfold wrap64; omega
  have hH := Aside0.mk h
  have H1 := Aside0.mk (And.intro hnn (And.intro hlast hlen))
  clear h hnew hnn hlast hlen
  have hD := True.intro
  obtain ⟨W1, hW1⟩ : ∃ W1, W.setCell ⟨T, 0, none⟩ (.int .i64 l1) = W1 := ⟨_, rfl⟩
  have hF1 : Fr (fun k => k = T) W W1 := by rw [← hW1]; exact fr_set W T 0 _
  have ht1 : W1.heap[T]? = some (.cells #[.int .i64 l1, .map (some ma), .map (some mo)] 114 (0, 0)) := by
    rw [← hW1]
    exact blk_set hH.out.t 0 _
  have hlen : Ls.length < maxLen := by have := H1.out.2.2; unfold maxLen; omega
  have hA1 : MI eGr W1 ma (lk gno Ls) Ls.length := hH.out.a.fr hF1 (fun e => hH.out.nea e)
  have hO1 : MI eInt W1 mo (fun x => (lk gjo Ls x).map gno) Ls.length := hH.out.o.fr hF1 (fun e => hH.out.neo e)
  obtain ⟨w2, hrun2, hM2, ht2⟩ := (hA1.fr (F := fun _ => False) (fr_drew W1) (fun h => h)).store ekGr hlen ⟨l1, j, u⟩ hw1
  replace hrun2 : (Instr.mapUpdate 112 (.map (some ma)) (.int .i64 l1) (.agg #[.int .i64 l1, .int .i64 j, .int .u64 u])).run Try.prog W1.drew = .ok () w2 := hrun2
  have hF2 : Fr (fun k => k = ma) W1 w2 := fr_trans (fr_drew W1) (Fr.of_turned ht2)
  have hO2 : MI eInt w2 mo (fun x => (lk gjo Ls x).map gno) Ls.length := hO1.fr hF2 (fun e => hH.out.ne e.symm)
  obtain ⟨w3, hrun3, hM3, ht3⟩ := (hO2.fr (F := fun _ => False) (fr_drew w2) (fun h => h)).store ekInt hlen l1 hj
  replace hrun3 : (Instr.mapUpdate 49 (.map (some mo)) (.int .i64 j) (.int .i64 l1)).run Try.prog w2.drew = .ok () w3 := hrun3
  have hF3 : Fr (fun k => k = mo) w2 w3 := fr_trans (fr_drew w2) (Fr.of_turned ht3)
  have ht2' : w2.heap[T]? = _ := (hF2.blk T (Array.getElem?_eq_some_iff.1 ht1).1 (fun e => hH.out.nea e.symm)).trans ht1
  have ht3' : w3.heap[T]? = _ := (hF3.blk T (Array.getElem?_eq_some_iff.1 ht2').1 (fun e => hH.out.neo e.symm)).trans ht2'
  have kp1 : Aside0 (∀ w', Fr (fun k => k = ma) W1 w' → w'.cell? ⟨T, 1, none⟩ = some (.map (some ma)) ∧ w'.cell? ⟨T, 0, none⟩ = some (.int .i64 l1)) := ⟨fun w' hf => ⟨hf.cell (cell_of_row W1 T 1 _ 114 (0, 0) ht1) (fun e => hH.out.nea e.symm), hf.cell (cell_of_row W1 T 0 _ 114 (0, 0) ht1) (fun e => hH.out.nea e.symm)⟩⟩
  have kp2 : Aside0 (∀ w', Fr (fun k => k = mo) w2 w' → w'.cell? ⟨T, 2, none⟩ = some (.map (some mo)) ∧ w'.cell? ⟨T, 0, none⟩ = some (.int .i64 l1)) := ⟨fun w' hf => ⟨hf.cell (cell_of_row w2 T 2 _ 114 (0, 0) ht2') (fun e => hH.out.neo e.symm), hf.cell (cell_of_row w2 T 0 _ 114 (0, 0) ht2') (fun e => hH.out.neo e.symm)⟩⟩
  have hF2 := Aside0.mk hF2
  have hF3 := Aside0.mk hF3
  have hG : Aside0 (TB w3 T ma mo l1 (Ls ++ [⟨l1, j, u⟩]) ∧ Fr (TF T ma mo) W w3) := by
    refine ⟨⟨ht3', ?_, ?_, hH.out.ne⟩, fr_trans (fr_weak hF1 (fun k e => .inl e)) (fr_trans (fr_weak hF2.out (fun k e => .inr (.inl e))) (fr_weak hF3.out (fun k e => .inr (.inr e))))⟩
    · have e0 : lk gno Ls l1 = none := lk_none.2 H1.out.1
      rw [e0, if_neg (by simp)] at hM2
      rw [List.length_append, List.length_singleton]
      refine (hM2.fr hF3.out (fun e => hH.out.ne e)).congr (fun x => ?_)
      rw [lk_snoc _ _ _ H1.out.1]
      unfold upd
      rfl
    · have e0 : ((lk gjo Ls j).map gno) = none := by rw [hlk]; rfl
      rw [e0, if_neg (by simp)] at hM3
      rw [List.length_append, List.length_singleton]
      refine hM3.congr (fun x => ?_)
      rw [lk_snoc _ _ _ (by show j ∉ _; rw [← lk_none]; exact hlk)]
      unfold upd
      by_cases e : x = j
      · rw [if_pos e, if_pos (show x = gjo ⟨l1, j, u⟩ from e)]; rfl
      · rw [if_neg e, if_neg (show ¬ x = gjo ⟨l1, j, u⟩ from e)]
  have c3 : w3.cell? ⟨T, 0, none⟩ = some (.int .i64 l1) := cell_of_row w3 T 0 _ 114 (0, 0) ht3'
  have hfz := blk_frozen hH.out.t 0
  clear hF1 ht1 hA1 hO1 hM2 ht2 hO2 hM3 ht3 ht2' ht3' hlen hlk hw1 hl1 hD
  go_enter Try.func38, Try.ntmps38
  go_upto_region 7 with (fail)
  clear hW1 c0 c2 hlook hadd
  go_region_held3 (fun w' => w'.cell? ⟨T, 1, none⟩ = some (.map (some ma)) ∧ w'.cell? ⟨T, 0, none⟩ = some (.int .i64 l1)) (first | exact kp1.out _ (fr_drew _) | exact kp1.out _ hF2.out) (fail)
  go_upto_region 8 with (fail)
  go_region_held3 (fun w' => w'.cell? ⟨T, 2, none⟩ = some (.map (some mo)) ∧ w'.cell? ⟨T, 0, none⟩ = some (.int .i64 l1)) (first | exact kp2.out _ (fr_drew _) | exact kp2.out _ hF3.out) (fail)
  go_wp2
  go_ret2
  exact ⟨rfl, hG⟩
/-- What Drop leaves. -/
theorem rm_eq (h1 : (Ls.map gno).Nodup) (h2 : (Ls.map gjo).Nodup) {g : Gr} (hg : g ∈ Ls) : rm gno Ls g.n = rm gjo Ls g.j := by
  unfold rm
  apply List.filter_congr
  intro b hb
  have : gno b = g.n ↔ gjo b = g.j := ⟨fun h => by rw [lk_same (κ := gno) h1 hb hg h], fun h => by rw [lk_same (κ := gjo) h2 hb hg h]⟩
  simp [this]
set_option maxHeartbeats 4000000 in
set_option maxRecDepth 100000 in
theorem drop_no_calls (h : TB W T ma mo last Ls) (n : Int) (hn : (Lit.int .i64 n).wf = true) (hg : lk gno Ls n = none) :
    Calls Try.prog 39 #[ptr T, .int .i64 n] W fun e w' => e = .returned (.tuple #[.int .i64 0, .bool false]) ∧ Below W.heap.size W w' := by
  have hT := look_calls h n hn ⟨0, 0, 0⟩ (by rw [hg]; rfl) false (by rw [hg]; rfl)
  clear h hg
  go_enter Try.func39, Try.ntmps39
  go_wp2_with (go_at_call 42; refine hT.mono ?_; rintro e w1 ⟨rfl, hb1⟩)
  go_ret2
  first
    | exact ⟨rfl, below_alloc hb1 _⟩
    | exact ⟨rfl, below_set (below_alloc hb1 _) (by have := hb1.size; simp; omega)⟩
set_option maxHeartbeats 4000000 in
set_option maxRecDepth 100000 in
theorem drop_yes_calls (h : TB W T ma mo last Ls) (h1 : (Ls.map gno).Nodup) (h2 : (Ls.map gjo).Nodup) (n : Int) (hn : (Lit.int .i64 n).wf = true) (g : Gr) (hg : lk gno Ls n = some g) (hj : (Lit.int .i64 g.j).wf = true) :
    Calls Try.prog 39 #[ptr T, .int .i64 n] W fun e w' => e = .returned (.tuple #[.int .i64 g.j, .bool true]) ∧ Aside0 (TB w' T ma mo last (rm gjo Ls g.j) ∧ Fr (TF T ma mo) W w') := by
  have hT := Aside0.mk (look_calls h n hn g (by rw [hg]; rfl) true (by rw [hg]; rfl))
  have hH := Aside0.mk h
  have hK := Aside0.mk (And.intro h1 h2)
  obtain ⟨hgm, hgn⟩ := lk_mem hg
  have hgm := Aside0.mk hgm
  have hgn := Aside0.mk hgn
  have hg := Aside0.mk hg
  clear h h1 h2
  go_enter Try.func39, Try.ntmps39
  go_upto_region 4 with (go_at_call 42; refine hT.out.mono ?_; rintro e w1 ⟨rfl, hb1⟩)
  have hbW := Aside0.mk hb1
  have hsz := Aside0.mk hb1.size
  obtain ⟨w2, hw2⟩ : ∃ w2, w1.alloc (.cells #[.int .i64 n, .int .i64 g.j, .int .u64 g.u] 85) = w2 := ⟨_, rfl⟩
  have hgn2 : g.n = n := hgn.out
  have hb2 : Below w1.heap.size w1 w2 := by rw [← hw2]; exact below_alloc (Below.refl _ _) _
  have hbx : w2.heap[w1.heap.size]? = some (.cells #[.int .i64 n, .int .i64 g.j, .int .u64 g.u] 85 (0, 0)) := by rw [← hw2]; exact blk_new _ _
  have hT1 := hH.out.step hb1
  have hT2 := hT1.step hb2
  obtain ⟨w3, hrun3, hM3, ht3⟩ := hT2.a.drop ekGr hn 0
  have hF3 := Fr.of_turned ht3
  have hO3 := hT2.o.fr hF3 (fun e => hT2.ne e.symm)
  obtain ⟨w4, hrun4, hM4, ht4⟩ := (hO3.fr (F := fun _ => False) (fr_drew w3) (fun h => h)).drop ekInt hj 0
  have hF4 := Fr.of_turned ht4
  have hlt2 : ma < w1.heap.size := hT1.a.lt
  have hlt3 : mo < w1.heap.size := hT1.o.lt
  have ht3T := (hF3.blk T hT2.lt (fun e => hT2.nea e.symm)).trans hT2.t
  have hbx3 := (hF3.blk w1.heap.size (Array.getElem?_eq_some_iff.1 hbx).1 (by show ¬ w1.heap.size = ma; omega)).trans hbx
  have c1 := hT2.c1
  have kp : Aside0 (∀ w', Fr (fun k => k = mo) w3 w' → w'.cell? ⟨T, 2, none⟩ = some (.map (some mo)) ∧ w'.cell? ⟨w1.heap.size, 1, none⟩ = some (.int .i64 g.j)) := ⟨fun w' hf => ⟨hf.cell (cell_of_row w3 T 2 _ 114 (0, 0) ht3T) (fun e => hH.out.neo e.symm), hf.cell (cell_of_row w3 w1.heap.size 1 _ 85 (0, 0) hbx3) (by show ¬ w1.heap.size = mo; omega)⟩⟩
  have c4 : w4.cell? ⟨w1.heap.size, 1, none⟩ = some (.int .i64 g.j) := (kp.out w4 (fr_trans (fr_drew w3) hF4)).2
  have hF34 := Aside0.mk (fr_trans (fr_drew w3) hF4)
  have hG : Aside0 (TB w4 T ma mo last (rm gjo Ls g.j) ∧ Fr (TF T ma mo) W w4) := by
    have hin : n ∈ Ls.map gno := List.mem_map.2 ⟨g, hgm.out, hgn2⟩
    have hjn : g.j ∈ Ls.map gjo := List.mem_map.2 ⟨g, hgm.out, rfl⟩
    have hl : (rm gjo Ls g.j).length = Ls.length - 1 := by have := rm_len hK.out.2 hjn; omega
    have er := rm_eq hK.out.1 hK.out.2 hgm.out
    refine ⟨⟨(hF34.out.blk T (Array.getElem?_eq_some_iff.1 ht3T).1 (fun e => hH.out.neo e.symm)).trans ht3T, ?_, ?_, hH.out.ne⟩, fr_trans (Fr.of_below hb1) (fr_trans (Fr.of_below hb2) (fr_trans (fr_weak hF3 (fun k e => .inr (.inl e))) (fr_weak hF34.out (fun k e => .inr (.inr e)))))⟩
    · rw [lk_isSome.2 hin, if_pos rfl, ← hl] at hM3
      refine (hM3.fr hF34.out (fun e => hH.out.ne e)).congr (fun x => ?_)
      rw [← er, hgn2, lk_rm]
      rfl
    · have e1 : ((lk gjo Ls g.j).map gno).isSome = true := by
        rw [Option.isSome_map]; exact lk_isSome.2 hjn
      rw [e1, if_pos rfl, ← hl] at hM4
      refine hM4.congr (fun x => ?_)
      rw [lk_rm]
      unfold upd
      by_cases e : x = g.j
      · rw [if_pos e, if_pos e]; rfl
      · rw [if_neg e, if_neg e]
  clear hb1 hb2 hbx hT1 hT2 hM3 ht3 hO3 hM4 ht4 hF3 hF4 ht3T hbx3 hlt2 hlt3
  go_upto_region 5 with (fail)
  go_region_held3 (fun w' => w'.cell? ⟨T, 2, none⟩ = some (.map (some mo)) ∧ w'.cell? ⟨w1.heap.size, 1, none⟩ = some (.int .i64 g.j)) (first | exact kp.out _ (fr_drew _) | exact kp.out _ hF34.out) (fail)
  go_wp2
  go_ret2
  exact ⟨rfl, hG⟩
end
end Go.Proofs.Ytfkebbkfmchnaaa.Bk
