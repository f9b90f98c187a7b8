/- queue.line's methods as calls on a line in memory. Conditions: the line lies in memory as told. -/
import Derived.Test.YtfkebbkfmchnaaaCat
import Derived.StillTailTactics
import Derived.BigQuiet
namespace Go.Proofs.Ytfkebbkfmchnaaa.Ln
open Go.RowKit Go.Proofs.Ytfkebbkfmchnaaa.PBase Go.Proofs.Ytfkebbkfmchnaaa.Cat Go.Proofs.Ytfkebbkfmchnaaa.Heap Go.Proofs.YtfkebbkfmchnaaaW.PrintWords Go.Proofs.YtfkebbkfmchnaaaW.PrintLast Go.Proofs.YtfkebbkfmchnaaaW.PrintMore
/-- What a call keeps: all but the blocks F, and what is new. -/
structure Fr (F : Nat → Prop) (W W' : World) : Prop where
  os : W'.os = W.os
  tape : W'.tape = W.tape
  out : W'.output = W.output
  size : W.heap.size ≤ W'.heap.size
  blk : ∀ k, k < W.heap.size → ¬ F k → W'.heap[k]? = W.heap[k]?
theorem Fr.refl (F : Nat → Prop) (W : World) : Fr F W W := ⟨rfl, rfl, rfl, Nat.le_refl _, fun _ _ _ => rfl⟩
theorem Fr.of_below {F : Nat → Prop} {W W' : World} (h : Below W.heap.size W W') : Fr F W W' := ⟨h.os, h.tape, h.output, h.size, fun k hk _ => h.block k hk⟩
theorem Fr.of_grown {F : Nat → Prop} {W W' : World} {row : Option Nat} (h : W.grownBy W' row) (hF : ∀ k, row = some k → F k) : Fr F W W' := ⟨h.os, h.tape, h.output, h.size, fun k hk hn => h.block k hk (fun e => hn (hF k e.symm))⟩
theorem Fr.then_ {F F2 : Nat → Prop} {W W1 W2 : World} (h : Fr F W W1) (k : Fr F2 W1 W2) (hF : ∀ b, F2 b → F b ∨ W.heap.size ≤ b) : Fr F W W2 :=
  ⟨k.os.trans h.os, k.tape.trans h.tape, k.out.trans h.out, Nat.le_trans h.size k.size, fun b hb hn => (k.blk b (Nat.lt_of_lt_of_le hb h.size) (fun h2 => by
    rcases hF b h2 with h3 | h3
    · exact hn h3
    · omega)).trans (h.blk b hb hn)⟩
theorem Fr.below {F : Nat → Prop} {W W' : World} {base : Nat} (h : Fr F W W') (hb : base ≤ W.heap.size) (hF : ∀ k, F k → base ≤ k) : Below base W W' := ⟨h.os, h.tape, h.out, h.size, fun k hk => h.blk k (Nat.lt_of_lt_of_le hk hb) (fun e => by have := hF k e; omega)⟩
theorem Fr.cell {F : Nat → Prop} {W W' : World} (h : Fr F W W') {a : Addr} {v : Value} (hc : W.cell? a = some v) (hn : ¬ F a.block) : W'.cell? a = some v := by
  rw [World.cell?_of_block (h.blk a.block (World.block_lt_of_cell? W a hc) hn)]
  exact hc
/-- A queue's blocks. -/
def QF (B : Nat) (v : Value) (k : Nat) : Prop := k = B ∨ v.ownBlock = some k
/-- The row's block is the elder one, or new. -/
def At (W : World) (v v' : Value) : Prop := v'.ownBlock = v.ownBlock ∨ ∃ b, v'.ownBlock = some b ∧ W.heap.size ≤ b
/-- A queue in memory: its block B; aging, the row v of the jobs L, room, count. -/
structure QS (W : World) (base B : Nat) (ag : Int) (v : Value) (rm ct : Int) (L : List S77) : Prop where
  blk : W.heap[B]? = some (.cells #[.int .i64 ag, v, .int .i64 rm, .int .i64 ct] 111 (0, 0))
  lb : base ≤ B
  own : W.ownsRow base 77 3 v L.length (flat L)
/-- Jobs' row and the queue's block are two. -/
theorem QS.ne {W : World} {base B : Nat} {ag rm ct : Int} {v : Value} {L : List S77} (h : QS W base B ag v rm ct L) : v.ownBlock ≠ some B := by
  intro e
  obtain ⟨cells, hc⟩ := own_typed h.own B e
  rw [h.blk] at hc
  injection hc with hc
  injection hc with _ hc
  cases hc
theorem QS.cell {W : World} {base B : Nat} {ag rm ct : Int} {v : Value} {L : List S77} (h : QS W base B ag v rm ct L) (i : Nat) : W.cell? ⟨B, i, none⟩ = (#[.int .i64 ag, v, .int .i64 rm, .int .i64 ct] : Array Value)[i]? := cell_of_row W B i _ 111 (0, 0) h.blk
set_option maxHeartbeats 4000000 in
set_option maxRecDepth 100000 in
theorem len_calls {W : World} {base B : Nat} {ag rm ct : Int} {v : Value} {L : List S77} (h : QS W base B ag v rm ct L) :
    Calls Try.prog 72 #[.pointer (some ⟨B, 0, none⟩)] W fun e w' => e = .returned (.int .i64 (L.length : Int)) ∧ ∃ n, w' = W.drewN n := by
  have c1 : W.cell? ⟨B, 1, none⟩ = some v := h.cell 1
  obtain ⟨A, c, hv, _⟩ := Kd.R_reads (R_of_own h.own)
  subst hv
  go_enter Try.func72, Try.ntmps72
  go_wp2
  go_ret
  exact ⟨rfl, 0, rfl⟩
set_option maxHeartbeats 4000000 in
set_option maxRecDepth 100000 in
theorem less_calls {W : World} {base B : Nat} {ag rm ct : Int} {v : Value} {L : List S77} (h : QS W base B ag v rm ct L) (i k : Nat) (hi : i < L.length) (hk : k < L.length) (r : Bool) (hr : turn_Less.f ag (rd_T77 L i).f0 (rd_T77 L i).f1 (rd_T77 L i).f2 (rd_T77 L k).f0 (rd_T77 L k).f1 (rd_T77 L k).f2 = some r) :
    Calls Try.prog 120 #[.pointer (some ⟨B, 0, none⟩), .int .i64 i, .int .i64 k] W fun e w' => e = .returned (.bool r) ∧ Below W.heap.size W w' := by
  have c0 : W.cell? ⟨B, 0, none⟩ = some (.int .i64 ag) := h.cell 0
  have c1 : W.cell? ⟨B, 1, none⟩ = some v := h.cell 1
  obtain ⟨A, c, hv, _, hC⟩ := Kd.R_reads (R_of_own h.own)
  subst hv
  obtain ⟨ad, e1, hx0, hx1, hx2⟩ := at_T77 hC (i : Int) (by omega) (by omega)
  subst e1
  obtain ⟨ad', e2, hy0, hy1, hy2⟩ := at_T77 hC (k : Int) (by omega) (by omega)
  cases e2
  rw [Int.toNat_natCast] at hx0 hx1 hx2 hy0 hy1 hy2
  have hi' : (i : Int) < (L.length : Int) := by omega
  have hk' : (k : Int) < (L.length : Int) := by omega
  go_enter Try.func120, Try.ntmps120
  go_wp2
  go_still_tail 18, (by kernel_rfl)
  change wpList _ _ _ _ _ W.drew
  have hb : Below W.heap.size W W.drew := below_drew1 (Below.refl _ _)
  generalize W.drew = W1 at hb ⊢
  go_wp2_with (go_at_call 69; refine (turn_Less.calls _ _ _ _ _ _ _ r _ hr).mono ?_; rintro e w7 ⟨rfl, hb7⟩)
  go_ret
  exact ⟨rfl, below_step hb hb7⟩
theorem enc_len (x : S77) : (enc x).length = 3 := rfl
theorem enc_one (x : S77) : ∀ q ∈ enc x, q.oneCell' = true := by
  intro q hq
  simp only [enc, List.mem_cons, List.not_mem_nil, or_false] at hq
  rcases hq with rfl | rfl | rfl <;> rfl
/-- A store of a job's three cells, as a step. -/
theorem store_step {ops : Array Oper} {o : Oper} {a : Act} {Q : Exit → Act → World → Prop} {K : Act → World → Prop} {W : World} {g off : Nat} {cur : Array Value} (hw : Region.wanted o (yielded ops a.tmps) = true) (t : TypeId) (p x : Operand) (ho : o.op = .store t p x) (hd : o.dst = none)
    (hp : a.eval p = .pointer (some ⟨g, off, none⟩)) (u : Value) (seg : List Value) (hx : a.eval x = u) (hh : W.heap[g]? = some (.cells cur 77 (0, 0))) (hu : u.cells.toList = seg) (ht : (Try.prog.info? t).map (·.size) = some seg.length) (hfit : off + seg.length ≤ cur.size) (h1 : ∀ q ∈ seg, q.oneCell' = true) (h : K a (W.setCells g off seg)) :
    if Region.wanted o (yielded ops a.tmps) = true then Oper.wp Try.prog o a W K Q else K (a.put none undef) W := by
  rw [if_pos hw]
  have hrun := run_store_run t u seg hh hu ht hfit h1
  unfold Oper.wp execOp
  simp only [ho, hp, hx, Sem.run_bind, Sem.run_pure, Result.andThen_ok, hrun]
  show K (a.put o.dst undef) _
  rw [hd]
  exact h
theorem QS.of_row {W W1 : World} {base B : Nat} {ag rm ct : Int} {v v1 : Value} {L M : List S77} (h : QS W base B ag v rm ct L) (hF : W1.heap[B]? = some (.cells #[.int .i64 ag, v1, .int .i64 rm, .int .i64 ct] 111 (0, 0))) (hR : Kd.R k77 77 W1 base (fun _ => True) v1 M) : QS W1 base B ag v1 rm ct M := ⟨hF, h.lb, own_of_R hR⟩
theorem swap_world {W : World} {base B g cap n : Nat} {ag rm ct : Int} {L : List S77} (h : QS W base B ag (.slice (some ⟨g, 0, none⟩) n cap) rm ct L) {i k : Nat} (hi : i < L.length) (hk : k < L.length) (hgB : g ≠ B) :
    QS ((W.setCells g (i * 3) (enc (rd_T77 L k))).setCells g (k * 3) (enc (rd_T77 L i))) base B ag (.slice (some ⟨g, 0, none⟩) n cap) rm ct (sw z77 L i k) ∧ Fr (QF B (.slice (some ⟨g, 0, none⟩) n cap)) W ((W.setCells g (i * 3) (enc (rd_T77 L k))).setCells g (k * 3) (enc (rd_T77 L i))) := by
  have hR := R_of_own h.own
  have hn := (Kd.R_reads' hR).1
  obtain ⟨ad, c, e1, hcl, hK, hc⟩ := Kd.C_get (Kd.R_reads' hR).2.2 z77 (i : Int) (by omega) (by omega)
  injection e1 with e1
  subst e1
  have hcl' : c.length = 3 := hcl
  obtain ⟨h1, g1⟩ := Kd.R_seg (okp := fun _ => False) hR (i : Int) (by omega) (by omega) (c := c) (j := 0) (seg := enc (rd_T77 L k)) (x' := rd_T77 L k) hcl (fun j u hu => by have := hc j u hu; rwa [Addr.add_lit, Nat.zero_add] at this) (by simp [enc, Kd.iso, Kd.pair, Kd.int, Kd.scalar, k77])
    (by rw [List.take_zero, List.nil_append, List.drop_eq_nil_of_le (by simp [enc, hcl']), List.append_nil]; exact k77_mkM _ _ _ _) (fun _ h => h.elim)
  have hl2 : (L.set (i : Int).toNat (rd_T77 L k)).length = L.length := List.length_set
  obtain ⟨ad2, c2, e2, hcl2, hK2, hc2⟩ := Kd.C_get (Kd.R_reads' h1).2.2 z77 (k : Int) (by omega) (by omega)
  injection e2 with e2
  subst e2
  have hcl2' : c2.length = 3 := hcl2
  obtain ⟨h2, g2⟩ := Kd.R_seg (okp := fun _ => False) h1 (k : Int) (by omega) (by omega) (c := c2) (j := 0) (seg := enc (rd_T77 L i)) (x' := rd_T77 L i) hcl2 (fun j u hu => by have := hc2 j u hu; rwa [Addr.add_lit, Nat.zero_add] at this) (by simp [enc, Kd.iso, Kd.pair, Kd.int, Kd.scalar, k77])
    (by rw [List.take_zero, List.nil_append, List.drop_eq_nil_of_le (by simp [enc, hcl2']), List.append_nil]; exact k77_mkM _ _ _ _) (fun _ h => h.elim)
  have eW : ((W.setCells g ((i : Int).toNat * k77.sz + 0) (enc (rd_T77 L k))).setCells g ((k : Int).toNat * k77.sz + 0) (enc (rd_T77 L i))) = ((W.setCells g (i * 3) (enc (rd_T77 L k))).setCells g (k * 3) (enc (rd_T77 L i))) := by
    rw [Int.toNat_natCast, Int.toNat_natCast]
    rfl
  rw [eW] at h2 g2
  have gg := World.grownBy.trans g1 g2
  have eL : (L.set (i : Int).toNat (rd_T77 L k)).set (k : Int).toNat (rd_T77 L i) = sw z77 L i k := by
    rw [Int.toNat_natCast, Int.toNat_natCast]
    unfold sw Heap.g rd_T77
    rw [Int.toNat_natCast, Int.toNat_natCast]
  rw [eL] at h2
  generalize ((W.setCells g (i * 3) (enc (rd_T77 L k))).setCells g (k * 3) (enc (rd_T77 L i))) = X at h2 gg ⊢
  have hBlt : B < W.heap.size := (Array.getElem?_eq_some_iff.1 h.blk).1
  exact ⟨h.of_row ((gg.block B hBlt (by simp; exact Ne.symm hgB)).trans h.blk) h2, Fr.of_grown gg (fun b e => by injection e with e; subst e; exact .inr rfl)⟩
set_option maxHeartbeats 4000000 in
set_option maxRecDepth 100000 in
theorem swap_calls {W : World} {base B : Nat} {ag rm ct : Int} {v : Value} {L : List S77} (h : QS W base B ag v rm ct L) (i k : Nat) (hi : i < L.length) (hk : k < L.length) :
    Calls Try.prog 123 #[.pointer (some ⟨B, 0, none⟩), .int .i64 i, .int .i64 k] W fun e w' => e = .returned (.tuple #[]) ∧ QS w' base B ag v rm ct (sw z77 L i k) ∧ Fr (QF B v) W w' := by
  have c1 : W.cell? ⟨B, 1, none⟩ = some v := h.cell 1
  have hown := h.own
  rcases hown.2 with ⟨_, h0⟩ | ⟨g, cap, cells, rfl, hgb, hgc, hcl, hcm, hcs, _⟩
  · omega
  have hC := (Kd.R_reads' (R_of_own h.own)).2.2
  have hgB : g ≠ B := fun e => h.ne (by simp [Value.ownBlock, e])
  obtain ⟨ad, e1, hx0, hx1, hx2⟩ := at_T77 hC (i : Int) (by omega) (by omega)
  injection e1 with e1
  subst e1
  obtain ⟨ad', e2, hy0, hy1, hy2⟩ := at_T77 hC (k : Int) (by omega) (by omega)
  injection e2 with e2
  subst e2
  rw [Int.toNat_natCast, Addr.add_lit, Nat.zero_add] at hx0 hx1 hx2 hy0 hy1 hy2
  have hi' : (i : Int) < (L.length : Int) := by omega
  have hk' : (k : Int) < (L.length : Int) := by omega
  have hgc' : W.drew.heap[g]? = some (.cells cells 77 (0, 0)) := hgc
  have hfin := swap_world (W := W.drew) ⟨h.blk, h.lb, hown⟩ hi hk hgB
  have HF := Aside0.mk hfin
  have H := Aside0.mk h
  clear hfin h hown hC hcm
  go_enter Try.func123, Try.ntmps123
  go_wp2
  refine start_ (n := 28) (S := fun w' => w'.cell? ⟨B, 1, none⟩ = some (.slice (some ⟨g, 0, none⟩) L.length cap) ∧ w'.cell? ⟨g, i * 3, none⟩ = some (.int .i64 (rd_T77 L i).f0) ∧ w'.cell? ⟨g, i * 3 + 1, none⟩ = some (.int .i64 (rd_T77 L i).f1) ∧ w'.cell? ⟨g, i * 3 + 2, none⟩ = some (.int .i64 (rd_T77 L i).f2) ∧ w'.cell? ⟨g, k * 3, none⟩ = some (.int .i64 (rd_T77 L k).f0) ∧ w'.cell? ⟨g, k * 3 + 1, none⟩ = some (.int .i64 (rd_T77 L k).f1) ∧ w'.cell? ⟨g, k * 3 + 2, none⟩ = some (.int .i64 (rd_T77 L k).f2)) (ds := [25, 27]) #[false, false, false, false, false, false, false, false, false, false, false, false, false, false, false, false, false, false, false, false, false, false, false, false, false, false, false, false] (by kernel_rfl) rfl rfl ⟨c1, hx0, hx1, hx2, hy0, hy1, hy2⟩ (fun hHeld => ?_)
  refine pure_ (i := 0) (N := some 6) (v := ?_) (a' := ?_) #[true, false, false, false, false, false, false, false, false, false, false, false, false, false, false, false, false, false, false, false, false, false, false, false, false, false, false, false] rfl rfl (by kernel_rfl) (fun _ _ _ h => h) (Or.inl ⟨by rfl, ?_⟩) ?_ ?_
  rotate_left
  · intro w'
    go_simp
    with_reducible rfl
  rotate_left
  · simp only [Act.put, List.setIfInBounds_toArray, List.set_cons_zero, List.set_cons_succ]
    rfl
  refine pure_ (i := 1) (N := some 7) (v := ?_) (a' := ?_) #[true, true, false, false, false, false, false, false, false, false, false, false, false, false, false, false, false, false, false, false, false, false, false, false, false, false, false, false] rfl rfl (by kernel_rfl) (fun _ _ _ h => h) (Or.inl ⟨by rfl, ?_⟩) ?_ ?_
  rotate_left
  · intro w'
    go_simp
    with_reducible rfl
  rotate_left
  · simp only [Act.put, List.setIfInBounds_toArray, List.set_cons_zero, List.set_cons_succ]
    rfl
  refine pure_ (i := 2) (N := some 8) (v := ?_) (a' := ?_) #[true, true, true, false, false, false, false, false, false, false, false, false, false, false, false, false, false, false, false, false, false, false, false, false, false, false, false, false] rfl rfl (by kernel_rfl) (fun _ _ _ h => h) (Or.inl ⟨by rfl, ?_⟩) ?_ ?_
  rotate_left
  · intro w'
    go_simp
    with_reducible rfl
  rotate_left
  · simp only [Act.put, List.setIfInBounds_toArray, List.set_cons_zero, List.set_cons_succ]
    rfl
  refine take_ (i := 3) (N := some 9) (v := ?_) (a' := ?_) #[true, true, true, true, false, false, false, false, false, false, false, false, false, false, false, false, false, false, false, false, false, false, false, false, false, false, false, false] rfl rfl (by kernel_rfl) (fun _ _ _ h => h) (Or.inl ⟨by rfl, ?_⟩) hHeld ?_ ?_
  rotate_left
  · rintro w' ⟨s0, s1, s2, s3, s4, s5, s6⟩
    go_simp
    with_reducible rfl
  rotate_left
  · simp only [Act.put, List.setIfInBounds_toArray, List.set_cons_zero, List.set_cons_succ]
    rfl
  refine pure_ (i := 4) (N := some 10) (v := ?_) (a' := ?_) #[true, true, true, true, true, false, false, false, false, false, false, false, false, false, false, false, false, false, false, false, false, false, false, false, false, false, false, false] rfl rfl (by kernel_rfl) (fun _ _ _ h => h) (Or.inl ⟨by rfl, ?_⟩) ?_ ?_
  rotate_left
  · intro w'
    go_simp
    with_reducible rfl
  rotate_left
  · simp only [Act.put, List.setIfInBounds_toArray, List.set_cons_zero, List.set_cons_succ]
    rfl
  refine pure_ (i := 5) (N := some 11) (v := ?_) (a' := ?_) #[true, true, true, true, true, true, false, false, false, false, false, false, false, false, false, false, false, false, false, false, false, false, false, false, false, false, false, false] rfl rfl (by kernel_rfl) (fun _ _ _ h => h) (Or.inl ⟨by rfl, ?_⟩) ?_ ?_
  rotate_left
  · intro w'
    go_simp
    with_reducible rfl
  rotate_left
  · simp only [Act.put, List.setIfInBounds_toArray, List.set_cons_zero, List.set_cons_succ]
    rfl
  refine pure_ (i := 6) (N := some 12) (v := ?_) (a' := ?_) #[true, true, true, true, true, true, true, false, false, false, false, false, false, false, false, false, false, false, false, false, false, false, false, false, false, false, false, false] rfl rfl (by kernel_rfl) (fun _ _ _ h => h) (Or.inl ⟨by rfl, ?_⟩) ?_ ?_
  rotate_left
  · intro w'
    go_simp
    with_reducible rfl
  rotate_left
  · simp only [Act.put, List.setIfInBounds_toArray, List.set_cons_zero, List.set_cons_succ]
    rfl
  refine pure_ (i := 7) (N := some 13) (v := ?_) (a' := ?_) #[true, true, true, true, true, true, true, true, false, false, false, false, false, false, false, false, false, false, false, false, false, false, false, false, false, false, false, false] rfl rfl (by kernel_rfl) (fun _ _ _ h => h) (Or.inl ⟨by rfl, ?_⟩) ?_ ?_
  rotate_left
  · intro w'
    go_simp
    with_reducible rfl
  rotate_left
  · simp only [Act.put, List.setIfInBounds_toArray, List.set_cons_zero, List.set_cons_succ]
    rfl
  refine take_ (i := 8) (N := some 14) (v := ?_) (a' := ?_) #[true, true, true, true, true, true, true, true, true, false, false, false, false, false, false, false, false, false, false, false, false, false, false, false, false, false, false, false] rfl rfl (by kernel_rfl) (fun _ _ _ h => h) (Or.inl ⟨by rfl, ?_⟩) hHeld ?_ ?_
  rotate_left
  · rintro w' ⟨s0, s1, s2, s3, s4, s5, s6⟩
    go_simp
    with_reducible rfl
  rotate_left
  · simp only [Act.put, List.setIfInBounds_toArray, List.set_cons_zero, List.set_cons_succ]
    rfl
  refine pure_ (i := 9) (N := some 15) (v := ?_) (a' := ?_) #[true, true, true, true, true, true, true, true, true, true, false, false, false, false, false, false, false, false, false, false, false, false, false, false, false, false, false, false] rfl rfl (by kernel_rfl) (fun _ _ _ h => h) (Or.inl ⟨by rfl, ?_⟩) ?_ ?_
  rotate_left
  · intro w'
    go_simp
    with_reducible rfl
  rotate_left
  · simp only [Act.put, List.setIfInBounds_toArray, List.set_cons_zero, List.set_cons_succ]
    rfl
  refine pure_ (i := 10) (N := some 16) (v := ?_) (a' := ?_) #[true, true, true, true, true, true, true, true, true, true, true, false, false, false, false, false, false, false, false, false, false, false, false, false, false, false, false, false] rfl rfl (by kernel_rfl) (fun _ _ _ h => h) (Or.inl ⟨by rfl, ?_⟩) ?_ ?_
  rotate_left
  · intro w'
    go_simp
    with_reducible rfl
  rotate_left
  · simp only [Act.put, List.setIfInBounds_toArray, List.set_cons_zero, List.set_cons_succ]
    rfl
  refine pure_ (i := 11) (N := some 17) (v := ?_) (a' := ?_) #[true, true, true, true, true, true, true, true, true, true, true, true, false, false, false, false, false, false, false, false, false, false, false, false, false, false, false, false] rfl rfl (by kernel_rfl) (fun _ _ _ h => h) (Or.inl ⟨by rfl, ?_⟩) ?_ ?_
  rotate_left
  · intro w'
    go_simp
    with_reducible rfl
  rotate_left
  · simp only [Act.put, List.setIfInBounds_toArray, List.set_cons_zero, List.set_cons_succ]
    rfl
  refine pure_ (i := 12) (N := some 18) (v := ?_) (a' := ?_) #[true, true, true, true, true, true, true, true, true, true, true, true, true, false, false, false, false, false, false, false, false, false, false, false, false, false, false, false] rfl rfl (by kernel_rfl) (fun _ _ _ h => h) (Or.inl ⟨by rfl, ?_⟩) ?_ ?_
  rotate_left
  · intro w'
    go_simp
    with_reducible rfl
  rotate_left
  · simp only [Act.put, List.setIfInBounds_toArray, List.set_cons_zero, List.set_cons_succ]
    rfl
  refine take_ (i := 13) (N := some 19) (v := ?_) (a' := ?_) #[true, true, true, true, true, true, true, true, true, true, true, true, true, true, false, false, false, false, false, false, false, false, false, false, false, false, false, false] rfl rfl (by kernel_rfl) (fun _ _ _ h => h) (Or.inl ⟨by rfl, ?_⟩) hHeld ?_ ?_
  rotate_left
  · rintro w' ⟨s0, s1, s2, s3, s4, s5, s6⟩
    go_simp
    with_reducible rfl
  rotate_left
  · simp only [Act.put, List.setIfInBounds_toArray, List.set_cons_zero, List.set_cons_succ]
    rfl
  refine pure_ (i := 14) (N := some 20) (v := ?_) (a' := ?_) #[true, true, true, true, true, true, true, true, true, true, true, true, true, true, true, false, false, false, false, false, false, false, false, false, false, false, false, false] rfl rfl (by kernel_rfl) (fun _ _ _ h => h) (Or.inl ⟨by rfl, ?_⟩) ?_ ?_
  rotate_left
  · intro w'
    go_simp
    with_reducible rfl
  rotate_left
  · simp only [Act.put, List.setIfInBounds_toArray, List.set_cons_zero, List.set_cons_succ]
    rfl
  refine pure_ (i := 15) (N := some 21) (v := ?_) (a' := ?_) #[true, true, true, true, true, true, true, true, true, true, true, true, true, true, true, true, false, false, false, false, false, false, false, false, false, false, false, false] rfl rfl (by kernel_rfl) (fun _ _ _ h => h) (Or.inl ⟨by rfl, ?_⟩) ?_ ?_
  rotate_left
  · intro w'
    go_simp
    with_reducible rfl
  rotate_left
  · simp only [Act.put, List.setIfInBounds_toArray, List.set_cons_zero, List.set_cons_succ]
    rfl
  refine take_ (i := 16) (N := some 22) (v := ?_) (a' := ?_) #[true, true, true, true, true, true, true, true, true, true, true, true, true, true, true, true, true, false, false, false, false, false, false, false, false, false, false, false] rfl rfl (by kernel_rfl) (fun _ _ _ h => h) (Or.inl ⟨by rfl, ?_⟩) hHeld ?_ ?_
  rotate_left
  · rintro w' ⟨s0, s1, s2, s3, s4, s5, s6⟩
    go_simp
    with_reducible rfl
  rotate_left
  · simp only [Act.put, List.setIfInBounds_toArray, List.set_cons_zero, List.set_cons_succ]
    rfl
  refine pure_ (i := 17) (N := some 23) (v := ?_) (a' := ?_) #[true, true, true, true, true, true, true, true, true, true, true, true, true, true, true, true, true, true, false, false, false, false, false, false, false, false, false, false] rfl rfl (by kernel_rfl) (fun _ _ _ h => h) (Or.inl ⟨by rfl, ?_⟩) ?_ ?_
  rotate_left
  · intro w'
    go_simp
    with_reducible rfl
  rotate_left
  · simp only [Act.put, List.setIfInBounds_toArray, List.set_cons_zero, List.set_cons_succ]
    rfl
  refine pure_ (i := 18) (N := some 24) (v := ?_) (a' := ?_) #[true, true, true, true, true, true, true, true, true, true, true, true, true, true, true, true, true, true, true, false, false, false, false, false, false, false, false, false] rfl rfl (by kernel_rfl) (fun _ _ _ h => h) (Or.inl ⟨by rfl, ?_⟩) ?_ ?_
  rotate_left
  · intro w'
    go_simp
    with_reducible rfl
  rotate_left
  · simp only [Act.put, List.setIfInBounds_toArray, List.set_cons_zero, List.set_cons_succ]
    rfl
  refine pure_ (i := 19) (N := some 25) (v := ?_) (a' := ?_) #[true, true, true, true, true, true, true, true, true, true, true, true, true, true, true, true, true, true, true, true, false, false, false, false, false, false, false, false] rfl rfl (by kernel_rfl) (fun _ _ _ h => h) (Or.inl ⟨by rfl, ?_⟩) ?_ ?_
  rotate_left
  · intro w'
    go_simp
    with_reducible rfl
  rotate_left
  · simp only [Act.put, List.setIfInBounds_toArray, List.set_cons_zero, List.set_cons_succ]
    rfl
  refine take_ (i := 20) (N := some 26) (v := ?_) (a' := ?_) #[true, true, true, true, true, true, true, true, true, true, true, true, true, true, true, true, true, true, true, true, true, false, false, false, false, false, false, false] rfl rfl (by kernel_rfl) (fun _ _ _ h => h) (Or.inl ⟨by rfl, ?_⟩) hHeld ?_ ?_
  rotate_left
  · rintro w' ⟨s0, s1, s2, s3, s4, s5, s6⟩
    go_simp
    with_reducible rfl
  rotate_left
  · simp only [Act.put, List.setIfInBounds_toArray, List.set_cons_zero, List.set_cons_succ]
    rfl
  refine pure_ (i := 21) (N := some 27) (v := ?_) (a' := ?_) #[true, true, true, true, true, true, true, true, true, true, true, true, true, true, true, true, true, true, true, true, true, true, false, false, false, false, false, false] rfl rfl (by kernel_rfl) (fun _ _ _ h => h) (Or.inl ⟨by rfl, ?_⟩) ?_ ?_
  rotate_left
  · intro w'
    go_simp
    with_reducible rfl
  rotate_left
  · simp only [Act.put, List.setIfInBounds_toArray, List.set_cons_zero, List.set_cons_succ]
    rfl
  refine pure_ (i := 22) (N := some 28) (v := ?_) (a' := ?_) #[true, true, true, true, true, true, true, true, true, true, true, true, true, true, true, true, true, true, true, true, true, true, true, false, false, false, false, false] rfl rfl (by kernel_rfl) (fun _ _ _ h => h) (Or.inl ⟨by rfl, ?_⟩) ?_ ?_
  rotate_left
  · intro w'
    go_simp
    with_reducible rfl
  rotate_left
  · simp only [Act.put, List.setIfInBounds_toArray, List.set_cons_zero, List.set_cons_succ]
    rfl
  refine take_ (i := 23) (N := some 29) (v := ?_) (a' := ?_) #[true, true, true, true, true, true, true, true, true, true, true, true, true, true, true, true, true, true, true, true, true, true, true, true, false, false, false, false] rfl rfl (by kernel_rfl) (fun _ _ _ h => h) (Or.inl ⟨by rfl, ?_⟩) hHeld ?_ ?_
  rotate_left
  · rintro w' ⟨s0, s1, s2, s3, s4, s5, s6⟩
    go_simp
    with_reducible rfl
  rotate_left
  · simp only [Act.put, List.setIfInBounds_toArray, List.set_cons_zero, List.set_cons_succ]
    rfl
  refine pure_ (i := 24) (N := some 30) (v := ?_) (a' := ?_) #[true, true, true, true, true, true, true, true, true, true, true, true, true, true, true, true, true, true, true, true, true, true, true, true, true, false, false, false] rfl rfl (by kernel_rfl) (fun _ _ _ h => h) (Or.inl ⟨by rfl, ?_⟩) ?_ ?_
  rotate_left
  · intro w'
    go_simp
    with_reducible rfl
  rotate_left
  · simp only [Act.put, List.setIfInBounds_toArray, List.set_cons_zero, List.set_cons_succ]
    rfl
  refine last_ (i := 25) (N := none) #[true, true, true, true, true, true, true, true, true, true, true, true, true, true, true, true, true, true, true, true, true, true, true, true, true, true, false, false] rfl rfl (by kernel_rfl) (by decide) (fun K hK => ?_)
  refine store_step (g := g) (off := i * 3) (cur := cells) (by rfl) 77 (.tmp 30) (.tmp 22) (by rfl) (by rfl) (by rfl) (.agg #[.int .i64 (rd_T77 L k).f0, .int .i64 (rd_T77 L k).f1, .int .i64 (rd_T77 L k).f2]) (enc (rd_T77 L k)) (by rfl) hgc' rfl rfl (by rw [enc_len]; omega) (enc_one _) ?_
  refine hK.out _ _ ?_
  clear hK K
  obtain ⟨cells2, hgc2, hsz2, _⟩ := setCells_row (enc (rd_T77 L k)) (i * 3) W.drew cells hgc' (by rw [enc_len]; omega)
  refine pure_ (i := 26) (N := some 31) (v := ?_) (a' := ?_) #[true, true, true, true, true, true, true, true, true, true, true, true, true, true, true, true, true, true, true, true, true, true, true, true, true, true, true, false] rfl rfl (by kernel_rfl) (fun _ _ _ h => h) (Or.inl ⟨by rfl, ?_⟩) ?_ ?_
  rotate_left
  · intro w'
    go_simp
    with_reducible rfl
  rotate_left
  · simp only [Act.put, List.setIfInBounds_toArray, List.set_cons_zero, List.set_cons_succ]
    rfl
  refine last_ (i := 27) (N := none) #[true, true, true, true, true, true, true, true, true, true, true, true, true, true, true, true, true, true, true, true, true, true, true, true, true, true, true, true] rfl rfl (by kernel_rfl) (by decide) (fun K hK => ?_)
  refine store_step (g := g) (off := k * 3) (cur := cells2) (by rfl) 77 (.tmp 31) (.tmp 29) (by rfl) (by rfl) (by rfl) (.agg #[.int .i64 (rd_T77 L i).f0, .int .i64 (rd_T77 L i).f1, .int .i64 (rd_T77 L i).f2]) (enc (rd_T77 L i)) (by rfl) hgc2 rfl rfl (by rw [enc_len]; omega) (enc_one _) ?_
  refine hK.out _ _ ?_
  clear hK K
  refine done_ (by kernel_rfl) ?_
  go_end0
  exact ⟨rfl, HF.out.1, Fr.then_ (Fr.of_below (F := QF B (.slice (some ⟨g, 0, none⟩) L.length cap)) (below_drew1 (Below.refl _ _))) HF.out.2 (fun _ h => .inl h)⟩
end Go.Proofs.Ytfkebbkfmchnaaa.Ln
