/- The reference's book in memory; Find, Look, Of as calls. Conditions: the book lies in memory as told. -/
import Derived.Test.YtfkebbkfmchnaaaCg
import Derived.Test.YtfkebbkfmchnaaaQru
import Derived.Test.YtfkebbkfmchnaaaQrt
import Derived.Test.YtfkebbkfmchnaaaQpj
import Derived.Test.YtfkebbkfmchnaaaPStpx2
set_option linter.unusedVariables false
namespace Go.Proofs.Ytfkebbkfmchnaaa.Bk
open Go.RowKit Go.Proofs.Ytfkebbkfmchnaaa.PBase Go.Proofs.Ytfkebbkfmchnaaa.Heap Go.Proofs.Ytfkebbkfmchnaaa.Ln Go.Proofs.Ytfkebbkfmchnaaa.Lst Go.Proofs.YtfkebbkfmchnaaaW.PrintWords Go.Proofs.YtfkebbkfmchnaaaW.PrintLast Go.Proofs.YtfkebbkfmchnaaaW.PrintMore
/-! ### Places in a row -/
def posF {α : Type} (κ : α → Int) (x : Int) : List α → Nat → Int
  | [], _ => -1
  | a :: l, i => if κ a = x then (i : Int) else posF κ x l (i + 1)
/-- The place of a key; -1. -/
def pos {α : Type} (κ : α → Int) (l : List α) (x : Int) : Int := posF κ x l 0
section
variable {α : Type} {κ : α → Int}
theorem posF_step {l : List α} {x : Int} {i : Nat} (h : i < l.length) : posF κ x (l.drop i) i = if κ l[i] = x then (i : Int) else posF κ x (l.drop (i + 1)) (i + 1) := by
  rw [List.drop_eq_getElem_cons h]
  rfl
theorem posF_end {l : List α} {x : Int} {i : Nat} (h : l.length ≤ i) : posF κ x (l.drop i) i = -1 := by
  rw [List.drop_eq_nil_of_le h]
  rfl
theorem posF_none {x : Int} : ∀ (l : List α) (i : Nat), lk κ l x = none → posF κ x l i = -1
  | [], _, _ => rfl
  | a :: l, i, h => by
    rw [lk_cons] at h
    unfold posF
    by_cases e : κ a = x
    · rw [if_pos e] at h; cases h
    · rw [if_neg e] at h ⊢; exact posF_none l (i + 1) h
theorem posF_some {x : Int} {b : α} : ∀ (l : List α) (i : Nat), lk κ l x = some b → ∃ k, ∃ h : k < l.length, posF κ x l i = ((i + k : Nat) : Int) ∧ l[k] = b
  | [], _, h => by cases h
  | a :: l, i, h => by
    rw [lk_cons] at h
    unfold posF
    by_cases e : κ a = x
    · rw [if_pos e] at h ⊢
      exact ⟨0, by simp, rfl, Option.some.inj h⟩
    · rw [if_neg e] at h ⊢
      obtain ⟨k, h1, h2, h3⟩ := posF_some l (i + 1) h
      exact ⟨k + 1, by simp; omega, by rw [h2]; congr 1; omega, by simpa using h3⟩
theorem pos_none {l : List α} {x : Int} (h : lk κ l x = none) : pos κ l x = -1 := posF_none l 0 h
theorem pos_some {l : List α} {x : Int} {b : α} (h : lk κ l x = some b) : ∃ k, ∃ h : k < l.length, pos κ l x = (k : Int) ∧ l[k] = b := by
  obtain ⟨k, h1, h2, h3⟩ := posF_some l 0 h
  exact ⟨k, h1, by rw [Nat.zero_add] at h2; exact h2, h3⟩
end
theorem at98 {w : World} {A : Option Addr} {n : Nat} {xs : List Jb} (h : Kd.C CatJ.k98 w A n xs) (i : Nat) (h1 : i < xs.length) : ∃ ad , A = some ad ∧ w.cell? (ad.add (i * 4)) = some (.int .i64 xs[i].id) ∧ w.cell? ⟨(ad.add (i * 4)).block, (ad.add (i * 4)).off + 1, none⟩ = some (.int .i64 xs[i].cls) ∧ w.cell? ⟨(ad.add (i * 4)).block, (ad.add (i * 4)).off + 2, none⟩ = some (.int .i64 xs[i].st) ∧ w.cell? ⟨(ad.add (i * 4)).block, (ad.add (i * 4)).off + 3, none⟩ = some (.int .i64 xs[i].us) := by
  obtain ⟨ad, c, e, _, hK, hc0⟩ := Kd.C_get h ⟨0, 0, 0, 0⟩ (i : Int) (by omega) (by have := h.1; omega)
  rw [Int.toNat_natCast, List.getD_eq_getElem?_getD, List.getElem?_eq_getElem h1] at hK
  rw [Int.toNat_natCast] at hc0
  have hc : ∀ j u, c[j]? = some u → w.cell? (ad.add (i * 4 + j)) = some u := hc0
  obtain rfl := CatJ.k98_open hK
  exact ⟨ad, e, hc 0 _ rfl, by rw [← add_field _ _ 1 (by omega)]; exact hc 1 _ rfl, by rw [← add_field _ _ 2 (by omega)]; exact hc 2 _ rfl, by rw [← add_field _ _ 3 (by omega)]; exact hc 3 _ rfl⟩
theorem at85 {w : World} {A : Option Addr} {n : Nat} {xs : List Gr} (h : Kd.C CatG.k85 w A n xs) (i : Nat) (h1 : i < xs.length) : ∃ ad , A = some ad ∧ w.cell? (ad.add (i * 3)) = some (.int .i64 xs[i].n) ∧ w.cell? ⟨(ad.add (i * 3)).block, (ad.add (i * 3)).off + 1, none⟩ = some (.int .i64 xs[i].j) ∧ w.cell? ⟨(ad.add (i * 3)).block, (ad.add (i * 3)).off + 2, none⟩ = some (.int .u64 xs[i].u) := by
  obtain ⟨ad, c, e, _, hK, hc0⟩ := Kd.C_get h ⟨0, 0, 0⟩ (i : Int) (by omega) (by have := h.1; omega)
  rw [Int.toNat_natCast, List.getD_eq_getElem?_getD, List.getElem?_eq_getElem h1] at hK
  rw [Int.toNat_natCast] at hc0
  have hc : ∀ j u, c[j]? = some u → w.cell? (ad.add (i * 3 + j)) = some u := hc0
  obtain rfl := CatG.k85_open hK
  exact ⟨ad, e, hc 0 _ rfl, by rw [← add_field _ _ 1 (by omega)]; exact hc 1 _ rfl, by rw [← add_field _ _ 2 (by omega)]; exact hc 2 _ rfl⟩
/-- The reference's book: its block; the rows of the queue, the leases, the jobs. -/
structure RB (N : Nat) (w : World) (R : Nat) (vq vl vj : Value) (ag rm ct last tr : Int) (LQ : List S77) (Ls : List Gr) (Js : List Jb) : Prop where
  q : RS N w (.big R vl (.int .i64 last) (.int .i64 tr) vj) vq ag rm ct LQ
  l : Kd.R CatG.k85 85 w N (fun k => vl.ownBlock = some k ∧ k ≠ R) vl Ls
  j : Kd.R CatJ.k98 98 w N (fun k => vj.ownBlock = some k ∧ k ≠ R) vj Js
section
variable {N : Nat} {w w' : World} {R : Nat} {vq vl vj : Value} {ag rm ct last tr : Int} {LQ : List S77} {Ls : List Gr} {Js : List Jb}
theorem RB.blk (h : RB N w R vq vl vj ag rm ct last tr LQ Ls Js) : w.heap[R]? = some (.cells #[.int .i64 ag, .int .i64 rm, .int .i64 ct, vq, vl, .int .i64 last, .int .i64 tr, vj] 96 (0, 0)) := h.q.g
theorem RB.keep {F : Nat → Prop} (h : RB N w R vq vl vj ag rm ct last tr LQ Ls Js) (hf : Fr F w w') (h1 : ¬ F R) (h2 : ∀ k, vq.ownBlock = some k → ¬ F k) (h3 : ∀ k, vl.ownBlock = some k → ¬ F k) (h4 : ∀ k, vj.ownBlock = some k → ¬ F k) : RB N w' R vq vl vj ag rm ct last tr LQ Ls Js :=
  ⟨h.q.keep hf h1 h2, Kd.R_kept h.l (S := F) ⟨hf.size, fun i hi hn => hf.blk i hi hn⟩ (fun k hk => h3 k hk.1), Kd.R_kept h.j (S := F) ⟨hf.size, fun i hi hn => hf.blk i hi hn⟩ (fun k hk => h4 k hk.1)⟩
theorem RB.step (h : RB N w R vq vl vj ag rm ct last tr LQ Ls Js) (hb : Below w.heap.size w w') : RB N w' R vq vl vj ag rm ct last tr LQ Ls Js := h.keep (F := fun _ => False) (Fr.of_below hb) (fun h => h) (fun _ _ h => h) (fun _ _ h => h) (fun _ _ h => h)
set_option maxHeartbeats 4000000 in
set_option maxRecDepth 100000 in
theorem rfind12 (h : RB N w R vq vl vj ag rm ct last tr LQ Ls Js) (id : Int) (hl : Js.length ≤ 1000000) (r : Int) (hr : pos jid Js id = r) : Calls Try.prog 30 #[.pointer (some ⟨R, 0, none⟩), .int .i64 id] w fun e w' => e = .returned (.int .i64 r) ∧ Below w.heap.size w w' := by
  have c3 : w.cell? ⟨R, 7, none⟩ = some vj := (blk_cell h.blk 7).trans rfl
  obtain ⟨A, c, rfl, hc, hC⟩ := Kd.R_reads h.j
  have HC := Aside0.mk hC
  have hP : Aside0 (r = posF jid id (Js.drop 0) 0) := ⟨hr.symm⟩
  clear hC hc hr h
  go_enter Try.func30, Try.ntmps30
  go_wp2
  go_loopg [5] Js.length (fun gg v5 wr => ∃ i : Nat, v5 = .int .i64 i ∧ i ≤ Js.length ∧ Js.length - i ≤ gg ∧ wr = w ∧ Aside0 (r = posF jid id (Js.drop i) i))
  case atStart => exact ⟨0, rfl, Nat.zero_le _, by omega, rfl, hP⟩
  case round =>
    obtain ⟨i, rfl, hil, hgg, rfl, hQ⟩ := hrel
    clear hP
    by_cases hi : i < Js.length
    · have hi2 : (i : Int) < (Js.length : Int) := by omega
      have p1 : (0 : Int) ≤ (i : Int) := by omega
      obtain ⟨ad, e1, hx0, _, _, _⟩ := at98 HC.out i hi
      subst e1
      have hst := Aside0.mk (posF_step (κ := jid) (x := id) hi)
      have hl2 : (Js.length : Int) ≤ 1000000 := by omega
      by_cases hd : Js[i].id = id
      · replace hQ : Aside0 (r = (i : Int)) := ⟨by rw [hQ.out, hst.out]; exact if_pos hd⟩
        clear hst
        go_wp2
        go_ret
        exact ⟨by rw [hQ.out]; rfl, Below.refl _ _⟩
      · replace hQ : Aside0 (r = posF jid id (Js.drop (i + 1)) (i + 1)) := ⟨by rw [hQ.out, hst.out]; exact if_neg hd⟩
        clear hst
        go_wp2
        go_roundg (Js.length - (i + 1))
        case measure => omega
        case rel => exact ⟨i + 1, by go_num, by omega, Nat.le_refl _, rfl, hQ⟩
    · have hi2 : ¬ (i : Int) < (Js.length : Int) := by omega
      replace hQ : Aside0 (r = -1) := ⟨by rw [hQ.out, posF_end (by omega)]⟩
      go_wp2
      go_ret
      exact ⟨by rw [hQ.out]; rfl, Below.refl _ _⟩
theorem results_c {fn : Func} {p : Tmp} {ty : TypeId} (h : fn.results = #[.cell p ty]) (tmps : Array Value) (w : World) (g : Nat) (cs : Array Value) (hp : tmps.getD p undef = .pointer (some ⟨g, 0, none⟩)) (hl : (loadVar ty ⟨g, 0, none⟩).run Try.prog w = .ok (.agg cs) w) :
    (results fn tmps).run Try.prog w = .ok (.agg cs) w := by
  have hp' : tmps[p]?.getD undef = .pointer (some ⟨g, 0, none⟩) := by simpa using hp
  simp [results, h, hp', asAddr, hl]
theorem rlook12_ret {Q : Ending → World → Prop} {tmps : Array Value} {W : World} {n j u : Int} {ok : Bool} {g : Nat} (hg : tmps.getD 4 undef = .pointer (some ⟨g, 0, none⟩)) (hb : W.heap[g]? = some (.cells #[.int .i64 n, .int .i64 j, .int .u64 u, .bool ok] 104 (0, 0))) (hQ : Q (.returned (.agg #[.int .i64 n, .int .i64 j, .int .u64 u, .bool ok])) W) : bodyPost Try.prog Try.f65 Q Exit.ret { tmps := tmps, defers := [] } W :=
  bodyPost_ret (v := .agg #[.int .i64 n, .int .i64 j, .int .u64 u, .bool ok]) (results_c (fn := Try.f65) rfl tmps W g _ hg (run_loadVar_row W g 104 104 _ (0, 0) _ hb Try.underlying104 rfl (by kernel_rfl))) rfl hQ
set_option maxHeartbeats 4000000 in
set_option maxRecDepth 100000 in
theorem rlook12 (h : RB N w R vq vl vj ag rm ct last tr LQ Ls Js) (x : Int) (hl : Ls.length ≤ 1000000) (gg : Gr) (hgg : (lk gno Ls x).getD ⟨0, 0, 0⟩ = gg) (ok : Bool) (hok : (lk gno Ls x).isSome = ok) : Calls Try.prog 65 #[.pointer (some ⟨R, 4, none⟩), .int .i64 x] w fun e w' => e = .returned (.agg #[.int .i64 gg.n, .int .i64 gg.j, .int .u64 gg.u, .bool ok]) ∧ Below w.heap.size w w' := by
  have hbA : Below w.heap.size w (w.alloc (.cells #[.int .i64 0, .int .i64 0, .int .u64 0, .bool false] 104)) := below_alloc (Below.refl _ _) _
  have h2 := h.step hbA
  have c4 : (w.alloc (.cells #[.int .i64 0, .int .i64 0, .int .u64 0, .bool false] 104)).cell? ⟨R, 4, none⟩ = some vl := (blk_cell h2.blk 4).trans rfl
  have hbx := blk_new w (.cells #[.int .i64 0, .int .i64 0, .int .u64 0, .bool false] 104)
  obtain ⟨A, c, rfl, hc, hC⟩ := Kd.R_reads h2.l
  have HC := Aside0.mk hC
  have hP : Aside0 (lk gno Ls x = lk gno (Ls.drop 0) x) := ⟨rfl⟩
  have HX := Aside0.mk hbx
  have HB := Aside0.mk hbA
  have HG := Aside0.mk (And.intro hgg hok)
  clear hC hc h h2 hbx hbA hgg hok
  go_enter Try.func65, Try.ntmps65
  go_wp2
  generalize w.alloc (.cells #[.int .i64 0, .int .i64 0, .int .u64 0, .bool false] 104) = w1 at HC HX HB c4 ⊢
  go_loopg [5] Ls.length (fun gk v5 wr => ∃ i : Nat, v5 = .int .i64 i ∧ i ≤ Ls.length ∧ Ls.length - i ≤ gk ∧ w1 = wr ∧ Aside0 (lk gno Ls x = lk gno (Ls.drop i) x))
  case atStart => exact ⟨0, rfl, Nat.zero_le _, by omega, rfl, hP⟩
  case round =>
    obtain ⟨i, rfl, hil, hgk, rfl, hQ⟩ := hrel
    clear hP
    have s0 := (blk_cell HX.out 0).trans rfl
    have s1 := (blk_cell HX.out 1).trans rfl
    have s2 := (blk_cell HX.out 2).trans rfl
    have s3 := (blk_cell HX.out 3).trans rfl
    have f0 := blk_frozen HX.out 0
    have f1 := blk_frozen HX.out 1
    have f2 := blk_frozen HX.out 2
    have f3 := blk_frozen HX.out 3
    by_cases hi : i < Ls.length
    · have hi2 : (i : Int) < (Ls.length : Int) := by omega
      have p1 : (0 : Int) ≤ (i : Int) := by omega
      obtain ⟨ad, e1, hx0, hx1, hx2⟩ := at85 HC.out i hi
      subst e1
      have hst : Aside0 (lk gno (Ls.drop i) x = if gno Ls[i] = x then some Ls[i] else lk gno (Ls.drop (i + 1)) x) := ⟨by rw [List.drop_eq_getElem_cons hi, lk_cons]⟩
      have hl2 : (Ls.length : Int) ≤ 1000000 := by omega
      by_cases hd : Ls[i].n = x
      · have hsome : lk gno Ls x = some Ls[i] := by rw [hQ.out, hst.out]; exact if_pos hd
        have hgg := HG.out.1
        have hok := HG.out.2
        rw [hsome] at hgg hok
        have hgg : Ls[i] = gg := hgg
        have hok : true = ok := hok
        subst hok
        rw [hgg] at hx0 hx1 hx2 hd
        clear hst hsome hgg
        subst hd
        go_wp2
        exact rlook12_ret (n := gg.n) (j := gg.j) (u := gg.u) (ok := true) (g := w.heap.size) rfl (blk_put (blk_put (blk_put (blk_put HX.out 0 _ rfl) 1 _ rfl) 2 _ rfl) 3 _ rfl) ⟨rfl, below_set (below_set (below_set (below_set HB.out (Nat.le_refl _)) (Nat.le_refl _)) (Nat.le_refl _)) (Nat.le_refl _)⟩
      · replace hQ : Aside0 (lk gno Ls x = lk gno (Ls.drop (i + 1)) x) := ⟨by rw [hQ.out, hst.out]; exact if_neg hd⟩
        clear hst s0 s1 s2 s3 f0 f1 f2 f3
        go_wp2
        go_roundg (Ls.length - (i + 1))
        case measure => omega
        case rel => exact ⟨i + 1, by go_num, by omega, Nat.le_refl _, rfl, hQ⟩
    · have hi2 : ¬ (i : Int) < (Ls.length : Int) := by omega
      have hnone : lk gno Ls x = none := by rw [hQ.out, List.drop_eq_nil_of_le (by omega)]; rfl
      have hgg := HG.out.1
      have hok := HG.out.2
      rw [hnone] at hgg hok
      have hgg : (⟨0, 0, 0⟩ : Gr) = gg := hgg
      have hok : false = ok := hok
      subst hok hgg
      clear hnone
      go_wp2
      exact rlook12_ret (n := 0) (j := 0) (u := 0) (ok := false) (g := w.heap.size) rfl (blk_put (blk_put (blk_put (blk_put HX.out 0 _ rfl) 1 _ rfl) 2 _ rfl) 3 _ rfl) ⟨rfl, below_set (below_set (below_set (below_set HB.out (Nat.le_refl _)) (Nat.le_refl _)) (Nat.le_refl _)) (Nat.le_refl _)⟩
theorem rof12_ret {Q : Ending → World → Prop} {tmps : Array Value} {W : World} {n j u : Int} {ok : Bool} {g : Nat} (hg : tmps.getD 4 undef = .pointer (some ⟨g, 0, none⟩)) (hb : W.heap[g]? = some (.cells #[.int .i64 n, .int .i64 j, .int .u64 u, .bool ok] 104 (0, 0))) (hQ : Q (.returned (.agg #[.int .i64 n, .int .i64 j, .int .u64 u, .bool ok])) W) : bodyPost Try.prog Try.f52 Q Exit.ret { tmps := tmps, defers := [] } W :=
  bodyPost_ret (v := .agg #[.int .i64 n, .int .i64 j, .int .u64 u, .bool ok]) (results_c (fn := Try.f52) rfl tmps W g _ hg (run_loadVar_row W g 104 104 _ (0, 0) _ hb Try.underlying104 rfl (by kernel_rfl))) rfl hQ
set_option maxHeartbeats 4000000 in
set_option maxRecDepth 100000 in
theorem rof12 (h : RB N w R vq vl vj ag rm ct last tr LQ Ls Js) (x : Int) (hl : Ls.length ≤ 1000000) (gg : Gr) (hgg : (lk gjo Ls x).getD ⟨0, 0, 0⟩ = gg) (ok : Bool) (hok : (lk gjo Ls x).isSome = ok) : Calls Try.prog 52 #[.pointer (some ⟨R, 4, none⟩), .int .i64 x] w fun e w' => e = .returned (.agg #[.int .i64 gg.n, .int .i64 gg.j, .int .u64 gg.u, .bool ok]) ∧ Below w.heap.size w w' := by
  have hbA : Below w.heap.size w (w.alloc (.cells #[.int .i64 0, .int .i64 0, .int .u64 0, .bool false] 104)) := below_alloc (Below.refl _ _) _
  have h2 := h.step hbA
  have c4 : (w.alloc (.cells #[.int .i64 0, .int .i64 0, .int .u64 0, .bool false] 104)).cell? ⟨R, 4, none⟩ = some vl := (blk_cell h2.blk 4).trans rfl
  have hbx := blk_new w (.cells #[.int .i64 0, .int .i64 0, .int .u64 0, .bool false] 104)
  obtain ⟨A, c, rfl, hc, hC⟩ := Kd.R_reads h2.l
  have HC := Aside0.mk hC
  have hP : Aside0 (lk gjo Ls x = lk gjo (Ls.drop 0) x) := ⟨rfl⟩
  have HX := Aside0.mk hbx
  have HB := Aside0.mk hbA
  have HG := Aside0.mk (And.intro hgg hok)
  clear hC hc h h2 hbx hbA hgg hok
  go_enter Try.func52, Try.ntmps52
  go_wp2
  generalize w.alloc (.cells #[.int .i64 0, .int .i64 0, .int .u64 0, .bool false] 104) = w1 at HC HX HB c4 ⊢
  go_loopg [5] Ls.length (fun gk v5 wr => ∃ i : Nat, v5 = .int .i64 i ∧ i ≤ Ls.length ∧ Ls.length - i ≤ gk ∧ w1 = wr ∧ Aside0 (lk gjo Ls x = lk gjo (Ls.drop i) x))
  case atStart => exact ⟨0, rfl, Nat.zero_le _, by omega, rfl, hP⟩
  case round =>
    obtain ⟨i, rfl, hil, hgk, rfl, hQ⟩ := hrel
    clear hP
    have s0 := (blk_cell HX.out 0).trans rfl
    have s1 := (blk_cell HX.out 1).trans rfl
    have s2 := (blk_cell HX.out 2).trans rfl
    have s3 := (blk_cell HX.out 3).trans rfl
    have f0 := blk_frozen HX.out 0
    have f1 := blk_frozen HX.out 1
    have f2 := blk_frozen HX.out 2
    have f3 := blk_frozen HX.out 3
    by_cases hi : i < Ls.length
    · have hi2 : (i : Int) < (Ls.length : Int) := by omega
      have p1 : (0 : Int) ≤ (i : Int) := by omega
      obtain ⟨ad, e1, hx0, hx1, hx2⟩ := at85 HC.out i hi
      subst e1
      have hst : Aside0 (lk gjo (Ls.drop i) x = if gjo Ls[i] = x then some Ls[i] else lk gjo (Ls.drop (i + 1)) x) := ⟨by rw [List.drop_eq_getElem_cons hi, lk_cons]⟩
      have hl2 : (Ls.length : Int) ≤ 1000000 := by omega
      by_cases hd : Ls[i].j = x
      · have hsome : lk gjo Ls x = some Ls[i] := by rw [hQ.out, hst.out]; exact if_pos hd
        have hgg := HG.out.1
        have hok := HG.out.2
        rw [hsome] at hgg hok
        have hgg : Ls[i] = gg := hgg
        have hok : true = ok := hok
        subst hok
        rw [hgg] at hx0 hx1 hx2 hd
        clear hst hsome hgg
        subst hd
        go_wp2
        exact rof12_ret (n := gg.n) (j := gg.j) (u := gg.u) (ok := true) (g := w.heap.size) rfl (blk_put (blk_put (blk_put (blk_put HX.out 0 _ rfl) 1 _ rfl) 2 _ rfl) 3 _ rfl) ⟨rfl, below_set (below_set (below_set (below_set HB.out (Nat.le_refl _)) (Nat.le_refl _)) (Nat.le_refl _)) (Nat.le_refl _)⟩
      · replace hQ : Aside0 (lk gjo Ls x = lk gjo (Ls.drop (i + 1)) x) := ⟨by rw [hQ.out, hst.out]; exact if_neg hd⟩
        clear hst s0 s1 s2 s3 f0 f1 f2 f3
        go_wp2
        go_roundg (Ls.length - (i + 1))
        case measure => omega
        case rel => exact ⟨i + 1, by go_num, by omega, Nat.le_refl _, rfl, hQ⟩
    · have hi2 : ¬ (i : Int) < (Ls.length : Int) := by omega
      have hnone : lk gjo Ls x = none := by rw [hQ.out, List.drop_eq_nil_of_le (by omega)]; rfl
      have hgg := HG.out.1
      have hok := HG.out.2
      rw [hnone] at hgg hok
      have hgg : (⟨0, 0, 0⟩ : Gr) = gg := hgg
      have hok : false = ok := hok
      subst hok hgg
      clear hnone
      go_wp2
      exact rof12_ret (n := 0) (j := 0) (u := 0) (ok := false) (g := w.heap.size) rfl (blk_put (blk_put (blk_put (blk_put HX.out 0 _ rfl) 1 _ rfl) 2 _ rfl) 3 _ rfl) ⟨rfl, below_set (below_set (below_set (below_set HB.out (Nat.le_refl _)) (Nat.le_refl _)) (Nat.le_refl _)) (Nat.le_refl _)⟩
end
end Go.Proofs.Ytfkebbkfmchnaaa.Bk

set_option linter.unusedVariables false
namespace Go.Proofs.Ytfkebbkfmchnaaa.Bk
open Go.RowKit Go.Proofs.Ytfkebbkfmchnaaa.PBase Go.Proofs.Ytfkebbkfmchnaaa.Heap Go.Proofs.Ytfkebbkfmchnaaa.Ln Go.Proofs.Ytfkebbkfmchnaaa.Lst Go.Proofs.YtfkebbkfmchnaaaW.PrintWords Go.Proofs.YtfkebbkfmchnaaaW.PrintLast Go.Proofs.YtfkebbkfmchnaaaW.PrintMore
theorem append_g {P : Program} (w : World) {ops : Array Oper} {rest : List Oper} {o : Oper} {a : Act} {Q : Exit → Act → World → Prop} (hw : Region.wanted o (yielded ops a.tmps) = true) (s x : Operand) (t tn : TypeId)
    (ho : o.op = .call { callee := .builtin .append, args := #[s, x], argTypes := #[t, tn] }) (vs vx : Value) (hs : a.eval s = vs) (hx : a.eval x = vx)
    (v' : Value) (w' : World) (hr : (Builtin.append_ #[t, tn] o.type #[vs, vx]).run P w = .ok v' w') (h : wpList P ops Q rest (a.put o.dst v') w') : wpList P ops Q (o :: rest) a w := by
  unfold wpList
  rw [if_pos hw]
  exact .inl (Lib.wp_append_run w s x t tn ho vs vx hs hx v' w' hr h)
section
variable {N : Nat} {w w' w1 : World} {R : Nat} {vq vl vj v' : Value} {ag rm ct last tr : Int} {LQ : List S77} {Ls Ls' : List Gr} {Js Js' : List Jb}
theorem R_new {α : Type} {d : Kd α} {e : TypeId} {W W1 : World} {N R : Nat} {v : Value} {xs : List α} (hE : d.E = []) (hR : Kd.R d e W1 W.heap.size (fun _ => True) v xs) (hN : N ≤ W.heap.size) (hRl : R < W.heap.size) : Kd.R d e W1 N (fun k => v.ownBlock = some k ∧ k ≠ R) v xs :=
  Kd.R_lower (Kd.R_mono (Kd.R_tight2 hE (Kd.R_bound hR)) (fun k hk => ⟨hk.1.symm, by have := hk.2.2.1; omega⟩)) hN
theorem RB.nle (h : RB N w R vq vl vj ag rm ct last tr LQ Ls Js) : N ≤ w.heap.size := by
  have h1 : N ≤ R := h.q.nr
  have h2 := blk_lt h.blk
  omega
/-- The jobs' row is another one. -/
theorem RB.putJ (h : RB N w R vq vl vj ag rm ct last tr LQ Ls Js) (hb : Below w.heap.size w w1) (hR : Kd.R CatJ.k98 98 w1 w.heap.size (fun _ => True) v' Js') : RB N (w1.setCell ⟨R, 7, none⟩ v') R vq vl v' ag rm ct last tr LQ Ls Js' := by
  have h1 := h.step hb
  have hN := h.nle
  have hlt := blk_lt h.blk
  have hk : ∀ i, i < w1.heap.size → ¬ i = R → (w1.setCell ⟨R, 7, none⟩ v').heap[i]? = w1.heap[i]? := fun i _ hn => Below.heap_setCell w1 ⟨R, 7, none⟩ v' i hn
  have hs : w1.heap.size ≤ (w1.setCell ⟨R, 7, none⟩ v').heap.size := by simp [World.setCell]
  refine ⟨⟨?_, Kd.R_kept h1.q.r (S := fun k => k = R) ⟨hs, hk⟩ (fun k hk => hk.2), h.q.nr⟩, Kd.R_kept h1.l (S := fun k => k = R) ⟨hs, hk⟩ (fun k hk => hk.2), Kd.R_kept (R_new rfl hR hN hlt) (S := fun k => k = R) ⟨hs, hk⟩ (fun k hk => hk.2)⟩
  exact blk_set h1.blk 7 v'
/-- The leases' row is another one. -/
theorem RB.putL (h : RB N w R vq vl vj ag rm ct last tr LQ Ls Js) (hb : Below w.heap.size w w1) (hR : Kd.R CatG.k85 85 w1 w.heap.size (fun _ => True) v' Ls') : RB N (w1.setCell ⟨R, 4, none⟩ v') R vq v' vj ag rm ct last tr LQ Ls' Js := by
  have h1 := h.step hb
  have hN := h.nle
  have hlt := blk_lt h.blk
  have hk : ∀ i, i < w1.heap.size → ¬ i = R → (w1.setCell ⟨R, 4, none⟩ v').heap[i]? = w1.heap[i]? := fun i _ hn => Below.heap_setCell w1 ⟨R, 4, none⟩ v' i hn
  have hs : w1.heap.size ≤ (w1.setCell ⟨R, 4, none⟩ v').heap.size := by simp [World.setCell]
  refine ⟨⟨?_, Kd.R_kept h1.q.r (S := fun k => k = R) ⟨hs, hk⟩ (fun k hk => hk.2), h.q.nr⟩, Kd.R_kept (R_new rfl hR hN hlt) (S := fun k => k = R) ⟨hs, hk⟩ (fun k hk => hk.2), Kd.R_kept h1.j (S := fun k => k = R) ⟨hs, hk⟩ (fun k hk => hk.2)⟩
  exact blk_set h1.blk 4 v'
theorem RB.putLast (h : RB N w R vq vl vj ag rm ct last tr LQ Ls Js) (l2 : Int) : RB N (w.setCell ⟨R, 5, none⟩ (.int .i64 l2)) R vq vl vj ag rm ct l2 tr LQ Ls Js := by
  have hk : ∀ i, i < w.heap.size → ¬ i = R → (w.setCell ⟨R, 5, none⟩ (.int .i64 l2)).heap[i]? = w.heap[i]? := fun i _ hn => Below.heap_setCell w ⟨R, 5, none⟩ _ i hn
  have hs : w.heap.size ≤ (w.setCell ⟨R, 5, none⟩ (.int .i64 l2)).heap.size := by simp [World.setCell]
  refine ⟨⟨?_, Kd.R_kept h.q.r (S := fun k => k = R) ⟨hs, hk⟩ (fun k hk => hk.2), h.q.nr⟩, Kd.R_kept h.l (S := fun k => k = R) ⟨hs, hk⟩ (fun k hk => hk.2), Kd.R_kept h.j (S := fun k => k = R) ⟨hs, hk⟩ (fun k hk => hk.2)⟩
  exact blk_set h.blk 5 _
theorem rm_take {α : Type} (κ : α → Int) (x : Int) (l : List α) (i : Nat) (h : i < l.length) : Lst.rm κ (l.take (i + 1)) x = if κ l[i] = x then Lst.rm κ (l.take i) x else Lst.rm κ (l.take i) x ++ [l[i]] := by
  unfold Lst.rm
  rw [List.take_succ_eq_append_getElem h, List.filter_append]
  by_cases e : κ l[i] = x
  · rw [if_pos e]
    simp [e]
  · rw [if_neg e]
    simp [e]
/-- Where gone leaves the book. -/
def JGo (N : Nat) (w : World) (R : Nat) (vq vl : Value) (w' : World) (ag rm ct last tr : Int) (LQ : List S77) (Ls : List Gr) (Js : List Jb) : Prop := ∃ v', RB N w' R vq vl v' ag rm ct last tr LQ Ls Js ∧ Fr (fun b => b = R) w w' ∧ ∀ b, v'.ownBlock = some b → w.heap.size ≤ b
set_option maxHeartbeats 8000000 in
set_option maxRecDepth 100000 in
theorem gone12 (h : RB N w R vq vl vj ag rm ct last tr LQ Ls Js) (id : Int) (hl : Js.length ≤ 100000) : Calls Try.prog 50 #[.pointer (some ⟨R, 0, none⟩), .int .i64 id] w fun e w' => e = .returned (.tuple #[]) ∧ Aside0 (JGo N w R vq vl w' ag rm ct last tr LQ Ls (Lst.rm jid Js id)) := by
  have H := Aside0.mk h
  obtain ⟨A, c, rfl, hc, hC⟩ := Kd.R_reads h.j
  have HC := Aside0.mk hC
  have Hc := Aside0.mk hc
  have hlt := blk_lt h.blk
  clear hC hc h
  go_enter Try.func50, Try.ntmps50
  go_wp2
  go_loopg [4, 5] Js.length (fun gg v4 v5 wr => ∃ i : Nat, v5 = .int .i64 i ∧ i ≤ Js.length ∧ Js.length - i ≤ gg ∧ Aside0 (Below w.heap.size w wr) ∧ Aside0 (Kd.R CatJ.k98 98 wr w.heap.size (fun _ => True) v4 (Lst.rm jid (Js.take i) id)))
  case atStart => exact ⟨0, rfl, Nat.zero_le _, by omega, ⟨Below.refl _ _⟩, ⟨Kd.R_nil _ _ _ _ _⟩⟩
  case round =>
    obtain ⟨i, rfl, hil, hgg, hB, hR⟩ := hrel
    have HM := Aside0.mk (H.out.step hB.out)
    have c7 : wr.cell? ⟨R, 7, none⟩ = some (.slice A Js.length c) := (blk_cell HM.out.blk 7).trans rfl
    by_cases hi : i < Js.length
    · have hi2 : (i : Int) < (Js.length : Int) := by omega
      have p1 : (0 : Int) ≤ (i : Int) := by omega
      obtain ⟨ad, e1, hx0, hx1, hx2, hx3⟩ := at98 (Kd.C_below HC.out hB.out) i hi
      subst e1
      have hst := Aside0.mk (rm_take jid id Js i hi)
      have hl2 : (Js.length : Int) ≤ 1000000 := by omega
      by_cases hd : Js[i].id = id
      · have hR2 : Aside0 (Kd.R CatJ.k98 98 wr w.heap.size (fun _ => True) _ (Lst.rm jid (Js.take (i + 1)) id)) := ⟨by rw [hst.out, if_pos hd]; exact hR.out⟩
        clear hst
        go_wp2
        go_roundg (Js.length - (i + 1))
        case measure => omega
        case rel => exact ⟨i + 1, by go_num, by omega, Nat.le_refl _, hB, hR2⟩
      · obtain ⟨A4, c4, e4, _, _⟩ := Kd.R_reads hR.out
        subst e4
        have hbA : Below wr.heap.size wr (wr.alloc (.cells #[.int .i64 Js[i].id, .int .i64 Js[i].cls, .int .i64 Js[i].st, .int .i64 Js[i].us] 98)) := below_alloc (Below.refl _ _) _
        have hln : (Lst.rm jid (Js.take i) id).length ≤ 100000 := by
          have := List.length_filter_le (fun a => decide (jid a ≠ id)) (Js.take i)
          unfold Lst.rm
          rw [List.length_take] at this
          omega
        obtain ⟨v1, w1, hrun, hR1, hb1⟩ := CatJ.run_rows 94 (some ⟨wr.heap.size, 0, none⟩) 1 1 [Js[i]] (Kd.R_below hR.out hbA) (CatJ.C_one Js[i]) (Nat.le_trans hB.out.size hbA.size) (by omega)
        have hR2 : Aside0 (Kd.R CatJ.k98 98 w1 w.heap.size (fun _ => True) v1 (Lst.rm jid (Js.take (i + 1)) id)) := ⟨by rw [hst.out, if_neg hd]; exact hR1⟩
        have hB2 := Aside0.mk ((below_step hB.out hbA).trans hb1)
        generalize (Lst.rm jid (Js.take i) id).length = n4 at hrun ⊢
        clear hst hbA hln hR1 hb1 hR
        go_wp2_with (at_builtin; refine append_g _ (by rfl) (.tmp 25) (.tmp 33) 94 94 (by rfl) (.slice A4 n4 c4) _ (by rfl) (by rfl) v1 w1 hrun ?_; clear hrun)
        go_roundg (Js.length - (i + 1))
        case measure => omega
        case rel => exact ⟨i + 1, by go_num, by omega, Nat.le_refl _, hB2, hR2⟩
    · have hi2 : ¬ (i : Int) < (Js.length : Int) := by omega
      have hfz := blk_frozen HM.out.blk 7
      have hR2 : Aside0 (Kd.R CatJ.k98 98 wr w.heap.size (fun _ => True) _ (Lst.rm jid Js id)) := ⟨by rw [show Lst.rm jid Js id = Lst.rm jid (Js.take i) id from by rw [List.take_of_length_le (by omega)]]; exact hR.out⟩
      obtain ⟨A4, c4, e4, _, _⟩ := Kd.R_reads hR.out
      subst e4
      clear hR
      go_wp2
      go_end0
      exact ⟨rfl, ⟨_, H.out.putJ hB.out hR2.out, Fr.then_ (Fr.of_below (F := fun b => b = R) hB.out) (Fr.set _ R 7 _) (fun b e => .inl e), fun b e => ((Kd.R_bound hR2.out).1 b e).2.1⟩⟩
end
end Go.Proofs.Ytfkebbkfmchnaaa.Bk

set_option linter.unusedVariables false
namespace Go.Proofs.Ytfkebbkfmchnaaa.Bk
open Go.RowKit Go.Proofs.Ytfkebbkfmchnaaa.PBase Go.Proofs.Ytfkebbkfmchnaaa.Heap Go.Proofs.Ytfkebbkfmchnaaa.Ln Go.Proofs.Ytfkebbkfmchnaaa.Lst Go.Proofs.YtfkebbkfmchnaaaW.PrintWords Go.Proofs.YtfkebbkfmchnaaaW.PrintLast Go.Proofs.YtfkebbkfmchnaaaW.PrintMore
section
variable {N : Nat} {w w' w1 : World} {R : Nat} {vq vl vj v' : Value} {ag rm ct last tr : Int} {LQ : List S77} {Ls Ls' : List Gr} {Js Js' : List Jb}
/-- Where a call of the table leaves the book. -/
def LGo (N : Nat) (w : World) (R : Nat) (vq vj : Value) (w' : World) (ag rm ct last tr : Int) (LQ : List S77) (Ls : List Gr) (Js : List Jb) : Prop := ∃ v', RB N w' R vq v' vj ag rm ct last tr LQ Ls Js ∧ Fr (fun b => b = R) w w' ∧ ∀ b, v'.ownBlock = some b → w.heap.size ≤ b
theorem rtdrop_ret {Q : Ending → World → Prop} {tmps : Array Value} {W : World} {n j u : Int} {ok : Bool} {g : Nat} (hg : tmps.getD 4 undef = .pointer (some ⟨g, 0, none⟩)) (hb : W.heap[g]? = some (.cells #[.int .i64 n, .int .i64 j, .int .u64 u, .bool ok] 104 (0, 0))) (hQ : Q (.returned (.agg #[.int .i64 n, .int .i64 j, .int .u64 u, .bool ok])) W) : bodyPost Try.prog Try.f49 Q Exit.ret { tmps := tmps, defers := [] } W :=
  bodyPost_ret (v := .agg #[.int .i64 n, .int .i64 j, .int .u64 u, .bool ok]) (results_c (fn := Try.f49) rfl tmps W g _ hg (run_loadVar_row W g 104 104 _ (0, 0) _ hb Try.underlying104 rfl (by kernel_rfl))) rfl hQ
set_option maxHeartbeats 8000000 in
set_option maxRecDepth 100000 in
theorem rtdrop (h : RB N w R vq vl vj ag rm ct last tr LQ Ls Js) (x : Int) (hl : Ls.length ≤ 100000) (gg : Gr) (hgg : (lk gno Ls x).getD ⟨0, 0, 0⟩ = gg) (ok : Bool) (hok : (lk gno Ls x).isSome = ok) : Calls Try.prog 49 #[.pointer (some ⟨R, 4, none⟩), .int .i64 x] w fun e w' => e = .returned (.agg #[.int .i64 gg.n, .int .i64 gg.j, .int .u64 gg.u, .bool ok]) ∧ Aside0 (LGo N w R vq vj w' ag rm ct last tr LQ (Lst.rm gno Ls x) Js) := by
  have hbA : Below w.heap.size w (w.alloc (.cells #[.int .i64 0, .int .i64 0, .int .u64 0, .bool false] 104)) := below_alloc (Below.refl _ _) _
  have hbx := blk_new w (.cells #[.int .i64 0, .int .i64 0, .int .u64 0, .bool false] 104)
  have hlk := rlook12 (h.step hbA) x (by omega) gg hgg ok hok
  have H := Aside0.mk h
  have HX := Aside0.mk hbx
  have HB := Aside0.mk hbA
  have hlt := blk_lt h.blk
  clear h hbx hbA hgg hok
  go_enter Try.func49, Try.ntmps49
  go_upto_region 2 with (go_at_call 65; refine hlk.mono ?_; clear hlk; rintro e w2 ⟨rfl, hb2⟩)
  generalize hw3 : w2.alloc (.cells #[.int .i64 gg.n, .int .i64 gg.j, .int .u64 gg.u, .bool ok] 104) = w3
  have hb3 : Below w2.heap.size w2 w3 := by rw [← hw3]; exact below_alloc (Below.refl _ _) _
  have hy3 : w3.heap[w2.heap.size]? = some (.cells #[.int .i64 gg.n, .int .i64 gg.j, .int .u64 gg.u, .bool ok] 104 (0, 0)) := by rw [← hw3]; exact blk_new _ _
  have hx3 := blk_below (blk_below HX.out hb2) hb3
  have hW3 := Aside0.mk (below_step (below_step HB.out hb2) hb3)
  have hR2 : R < w2.heap.size := by have := HB.out.size; have := hb2.size; omega
  have hx2 : w.heap.size < w2.heap.size := by have := blk_lt HX.out; have := hb2.size; omega
  generalize w2.heap.size = ky at hy3 hR2 hx2 ⊢
  have H3 := Aside0.mk (H.out.step hW3.out)
  obtain ⟨A, c, hvl, hc, hC⟩ := Kd.R_reads H3.out.l
  subst hvl
  have HC := Aside0.mk hC
  have hx3 := Aside0.mk hx3
  have hy3 := Aside0.mk hy3
  clear hw3 hb2 hb3 HX HB hC hc
  go_wp2
  go_loopg [6, 7] Ls.length (fun gk v6 v7 wr => ∃ i : Nat, v7 = .int .i64 i ∧ i ≤ Ls.length ∧ Ls.length - i ≤ gk ∧ Aside0 (Below w3.heap.size w3 wr) ∧ Aside0 (Kd.R CatG.k85 85 wr w3.heap.size (fun _ => True) v6 (Lst.rm gno (Ls.take i) x)))
  case atStart => exact ⟨0, rfl, Nat.zero_le _, by omega, ⟨Below.refl _ _⟩, ⟨Kd.R_nil _ _ _ _ _⟩⟩
  case round =>
    obtain ⟨i, rfl, hil, hgk, hB, hR⟩ := hrel
    have HM := Aside0.mk (H3.out.step hB.out)
    have c7 : wr.cell? ⟨R, 4, none⟩ = some (.slice A Ls.length c) := (blk_cell HM.out.blk 4).trans rfl
    by_cases hi : i < Ls.length
    · have hi2 : (i : Int) < (Ls.length : Int) := by omega
      have p1 : (0 : Int) ≤ (i : Int) := by omega
      obtain ⟨ad, e1, hx0, hx1, hx2⟩ := at85 (Kd.C_below HC.out hB.out) i hi
      subst e1
      have hst := Aside0.mk (rm_take gno x Ls i hi)
      have hl2 : (Ls.length : Int) ≤ 1000000 := by omega
      by_cases hd : Ls[i].n = x
      · have hR2 : Aside0 (Kd.R CatG.k85 85 wr w3.heap.size (fun _ => True) _ (Lst.rm gno (Ls.take (i + 1)) x)) := ⟨by rw [hst.out, if_pos hd]; exact hR.out⟩
        clear hst
        go_wp2
        go_roundg (Ls.length - (i + 1))
        case measure => omega
        case rel => exact ⟨i + 1, by go_num, by omega, Nat.le_refl _, hB, hR2⟩
      · obtain ⟨A4, c4, e4, _, _⟩ := Kd.R_reads hR.out
        subst e4
        have hbA : Below wr.heap.size wr (wr.alloc (.cells #[.int .i64 Ls[i].n, .int .i64 Ls[i].j, .int .u64 Ls[i].u] 85)) := below_alloc (Below.refl _ _) _
        have hln : (Lst.rm gno (Ls.take i) x).length ≤ 100000 := by
          have := List.length_filter_le (fun a => decide (gno a ≠ x)) (Ls.take i)
          unfold Lst.rm
          rw [List.length_take] at this
          omega
        obtain ⟨v1, w1, hrun, hR1, hb1⟩ := CatG.run_rows 91 (some ⟨wr.heap.size, 0, none⟩) 1 1 [Ls[i]] (Kd.R_below hR.out hbA) (CatG.C_one Ls[i]) (Nat.le_trans hB.out.size hbA.size) (by omega)
        have hR2 : Aside0 (Kd.R CatG.k85 85 w1 w3.heap.size (fun _ => True) v1 (Lst.rm gno (Ls.take (i + 1)) x)) := ⟨by rw [hst.out, if_neg hd]; exact hR1⟩
        have hB2 := Aside0.mk ((below_step hB.out hbA).trans hb1)
        generalize (Lst.rm gno (Ls.take i) x).length = n4 at hrun ⊢
        clear hst hbA hln hR1 hb1 hR
        go_wp2_with (at_builtin; refine append_g _ (by rfl) (.tmp 30) (.tmp 38) 91 91 (by rfl) (.slice A4 n4 c4) _ (by rfl) (by rfl) v1 w1 hrun ?_; clear hrun)
        go_roundg (Ls.length - (i + 1))
        case measure => omega
        case rel => exact ⟨i + 1, by go_num, by omega, Nat.le_refl _, hB2, hR2⟩
    · have hi2 : ¬ (i : Int) < (Ls.length : Int) := by omega
      have hfz := blk_frozen HM.out.blk 4
      have hR2 : Aside0 (Kd.R CatG.k85 85 wr w3.heap.size (fun _ => True) _ (Lst.rm gno Ls x)) := ⟨by rw [show Lst.rm gno Ls x = Lst.rm gno (Ls.take i) x from by rw [List.take_of_length_le (by omega)]]; exact hR.out⟩
      obtain ⟨A4, c4, e4, _, _⟩ := Kd.R_reads hR.out
      subst e4
      have HF := Aside0.mk (H3.out.putL hB.out hR2.out)
      have hfr := Aside0.mk ((Kd.R_bound hR2.out).1)
      clear hR
      generalize hw9 : wr.setCell ⟨R, 4, none⟩ (.slice A4 (Lst.rm gno (Ls.take i) x).length c4) = w9 at HF
      have hF9 : Fr (fun b => b = R) wr w9 := by rw [← hw9]; exact Fr.set _ R 4 _
      have hx9 := (hF9.blk w.heap.size (by have := blk_lt hx3.out; have := hB.out.size; omega) (by show ¬ w.heap.size = R; omega)).trans (blk_below hx3.out hB.out)
      have hy9 := (hF9.blk ky (by have := blk_lt hy3.out; have := hB.out.size; omega) (by show ¬ ky = R; omega)).trans (blk_below hy3.out hB.out)
      have s0 := (blk_cell hx9 0).trans rfl
      have s1 := (blk_cell hx9 1).trans rfl
      have s2 := (blk_cell hx9 2).trans rfl
      have s3 := (blk_cell hx9 3).trans rfl
      have f0 := blk_frozen hx9 0
      have f1 := blk_frozen hx9 1
      have f2 := blk_frozen hx9 2
      have f3 := blk_frozen hx9 3
      have t0 := (blk_cell hy9 0).trans rfl
      have t1 := (blk_cell hy9 1).trans rfl
      have t2 := (blk_cell hy9 2).trans rfl
      have t3 := (blk_cell hy9 3).trans rfl
      have hx9 := Aside0.mk hx9
      have hall := Aside0.mk (Fr.then_ (Fr.of_below (F := fun b => b = R) (below_step hW3.out hB.out)) hF9 (fun b e => .inl e))
      have hws := hW3.out.size
      clear hF9 hy9
      go_wp2
      have hvq := own_lt (Cat.own_of_R H.out.q.r)
      have hvj := own_lt (CatJ.own_of_R H.out.j)
      have hfs : ∀ W v0 v1 v2 v3, Fr (fun b => b = w.heap.size) W ((((W.setCell ⟨w.heap.size, 0, none⟩ v0).setCell ⟨w.heap.size, 1, none⟩ v1).setCell ⟨w.heap.size, 2, none⟩ v2).setCell ⟨w.heap.size, 3, none⟩ v3) := fun W v0 v1 v2 v3 =>
        Fr.then_ (Fr.then_ (Fr.then_ (Fr.set _ _ 0 _) (Fr.set _ _ 1 _) (fun b e => .inl e)) (Fr.set _ _ 2 _) (fun b e => .inl e)) (Fr.set _ _ 3 _) (fun b e => .inl e)
      refine rtdrop_ret (n := gg.n) (j := gg.j) (u := gg.u) (ok := ok) (g := w.heap.size) rfl (blk_put (blk_put (blk_put (blk_put hx9.out 0 _ rfl) 1 _ rfl) 2 _ rfl) 3 _ rfl) ⟨rfl, ⟨_, HF.out.keep (hfs _ _ _ _ _) (by omega) (fun k hk e => ?_) (fun k hk e => ?_) (fun k hk e => ?_), Fr.then_ hall.out (hfs _ _ _ _ _) (fun b e => .inr (by omega)), fun b e => ?_⟩⟩
      · have := hvq k hk; omega
      · have h1 := (hfr.out k hk).2.1; have h2 : w.heap.size < w3.heap.size := blk_lt hx3.out; have e2 : k = w.heap.size := e; omega
      · have := hvj k hk; omega
      · have := (hfr.out b e).2.1; omega
end
end Go.Proofs.Ytfkebbkfmchnaaa.Bk

set_option linter.unusedVariables false
namespace Go.Proofs.Ytfkebbkfmchnaaa.Bk
open Go.RowKit Go.Proofs.Ytfkebbkfmchnaaa.PBase Go.Proofs.Ytfkebbkfmchnaaa.Heap Go.Proofs.Ytfkebbkfmchnaaa.Ln Go.Proofs.Ytfkebbkfmchnaaa.Lst Go.Proofs.YtfkebbkfmchnaaaW.PrintWords Go.Proofs.YtfkebbkfmchnaaaW.PrintLast Go.Proofs.YtfkebbkfmchnaaaW.PrintMore
theorem j_rows3 {W : World} {base : Nat} {ok : Nat → Prop} {v : Value} {xs : List Jb} (ty : TypeId) (A : Option Addr) (m c : Nat) (ys : List Jb) (HO : Kd.R CatJ.k98 98 W base ok v xs) (HR : Kd.C CatJ.k98 W A m ys) (hbase : base ≤ W.heap.size) (hl : (xs.length + m) * 32 ≤ 140737488355328) :
    ∃ v1 w1, (Builtin.append_ #[94, 94] ty #[v, .slice A m c]).run Try.prog W = .ok v1 w1 ∧ Kd.R CatJ.k98 98 w1 base (fun _ => True) v1 (xs ++ ys) ∧ Below base W w1 ∧ Fr (fun k => v.ownBlock = some k) W w1 ∧ (v1.ownBlock = v.ownBlock ∨ ∃ b, v1.ownBlock = some b ∧ W.heap.size ≤ b) := by
  obtain ⟨i0, hi, hzz⟩ := Option.map_eq_some_iff.1 CatJ.info98
  simp only [Prod.mk.injEq] at hzz
  obtain ⟨hz0, hz1, hz2⟩ := hzz
  have hyl : ys.length = m := HR.1
  have hown := CatJ.own_of_R HO
  rcases A with _ | ad
  · have h0 : m = 0 := by
      rcases Nat.eq_zero_or_pos m with h0 | h0
      · exact h0
      · obtain ⟨ad, h, _⟩ := HR.2.2 h0
        cases h
    subst h0
    obtain rfl : ys = [] := List.eq_nil_of_length_eq_zero hyl
    refine ⟨v, W, ?_, by rw [List.append_nil]; exact Kd.R_mono HO (fun _ _ => trivial), Below.refl _ _, Fr.refl _ _, .inl rfl⟩
    rcases hown.2 with ⟨rfl, hn⟩ | ⟨g, cap, cur, rfl, _, _, hnc, _⟩
    · simp [Builtin.append_, run_underlying Try.underlying94, sizeOf, typeInfo, hi, Builtin.lenOf, Builtin.firstCells]
    · simp [Builtin.append_, run_underlying Try.underlying94, sizeOf, typeInfo, hi, Builtin.lenOf, Builtin.firstCells, hnc, storeCells]
  · obtain ⟨v1, w1, hrun, h2, hg, _, hat⟩ := run_append_own_at (P := Try.prog) W base 94 ty 98 i0 _ 4 32 Try.underlying94 hi hz0 hz1 hz2 rfl (by decide) v xs.length (CatJ.flat xs) hown ad m c (CatJ.flat ys) (by rw [CatJ.flat_len, hyl]) (CatJ.C_cells HR) CatJ.flat_one (by simp only [maxLen]; omega) hl hbase
    refine ⟨v1, w1, hrun, CatJ.R_of_own ?_, ⟨hg.os, hg.tape, hg.output, hg.size, fun k hk => hg.block k (Nat.lt_of_lt_of_le hk hbase) (fun he => by have := own_base hown k he.symm; omega)⟩, Fr.of_grown hg (fun k e => e), ?_⟩
    · rw [← CatJ.flat_append, ← hyl, ← List.length_append] at h2
      exact h2
    · rcases hat with hat | hat
      · exact .inl hat
      · exact .inr ⟨_, hat, Nat.le_refl _⟩
/-- The blocks of the reference's book. -/
def own3 (R : Nat) (vq vl vj : Value) (k : Nat) : Prop := k = R ∨ vq.ownBlock = some k ∨ vl.ownBlock = some k ∨ vj.ownBlock = some k
/-- The jobs' row is apart. -/
def Apart (vq vl vj : Value) : Prop := ∀ k, vj.ownBlock = some k → vq.ownBlock ≠ some k ∧ vl.ownBlock ≠ some k
/-- From one world with its blocks to another with its own. -/
structure Mv (w : World) (X : Nat → Prop) (w' : World) (X' : Nat → Prop) : Prop where
  fr : Fr X w w'
  at_ : ∀ k, X' k → X k ∨ w.heap.size ≤ k
theorem Mv.refl (w : World) (X : Nat → Prop) : Mv w X w X := ⟨Fr.refl _ _, fun _ h => .inl h⟩
theorem Mv.trans {w w1 w2 : World} {X X1 X2 : Nat → Prop} (h : Mv w X w1 X1) (k : Mv w1 X1 w2 X2) : Mv w X w2 X2 :=
  ⟨Fr.then_ h.fr k.fr h.at_, fun b hb => (k.at_ b hb).elim (h.at_ b) (fun e => .inr (Nat.le_trans h.fr.size e))⟩
theorem Mv.below {w w1 w2 : World} {X X1 : Nat → Prop} (h : Mv w X w1 X1) (hb : Below w1.heap.size w1 w2) : Mv w X w2 X1 := h.trans ⟨Fr.of_below hb, fun _ h => .inl h⟩
section
variable {N : Nat} {w w' w1 : World} {R : Nat} {vq vl vj v' : Value} {ag rm ct ct1 last tr : Int} {LQ LQ1 : List S77} {Ls Ls' : List Gr} {Js Js' : List Jb}
theorem RB.vqlt (h : RB N w R vq vl vj ag rm ct last tr LQ Ls Js) (k : Nat) (e : vq.ownBlock = some k) : k < w.heap.size := own_lt (Cat.own_of_R h.q.r) k e
theorem RB.vllt (h : RB N w R vq vl vj ag rm ct last tr LQ Ls Js) (k : Nat) (e : vl.ownBlock = some k) : k < w.heap.size := own_lt (CatG.own_of_R h.l) k e
theorem RB.vjlt (h : RB N w R vq vl vj ag rm ct last tr LQ Ls Js) (k : Nat) (e : vj.ownBlock = some k) : k < w.heap.size := own_lt (CatJ.own_of_R h.j) k e
theorem RB.lt3 (h : RB N w R vq vl vj ag rm ct last tr LQ Ls Js) (k : Nat) (e : own3 R vq vl vj k) : N ≤ k ∧ k < w.heap.size := by
  rcases e with rfl | e | e | e
  · exact ⟨h.q.nr, blk_lt h.blk⟩
  · exact ⟨own_base (Cat.own_of_R h.q.r) k e, h.vqlt k e⟩
  · exact ⟨own_base (CatG.own_of_R h.l) k e, h.vllt k e⟩
  · exact ⟨own_base (CatJ.own_of_R h.j) k e, h.vjlt k e⟩
/-- What none of the book's blocks is may change. -/
theorem RB.away {F : Nat → Prop} (h : RB N w R vq vl vj ag rm ct last tr LQ Ls Js) (hf : Fr F w w') (hn : ∀ k, own3 R vq vl vj k → ¬ F k) : RB N w' R vq vl vj ag rm ct last tr LQ Ls Js :=
  h.keep hf (hn R (.inl rfl)) (fun k hk => hn k (.inr (.inl hk))) (fun k hk => hn k (.inr (.inr (.inl hk)))) (fun k hk => hn k (.inr (.inr (.inr hk))))
/-- The queue was called. -/
theorem RB.goQ (h : RB N w R vq vl vj ag rm ct last tr LQ Ls Js) (ha : Apart vq vl vj) (hg : RGo N w (.big R vl (.int .i64 last) (.int .i64 tr) vj) vq w' ag rm ct1 LQ1) : ∃ vq', RB N w' R vq' vl vj ag rm ct1 last tr LQ1 Ls Js ∧ Apart vq' vl vj ∧ Mv w (own3 R vq vl vj) w' (own3 R vq' vl vj) := by
  obtain ⟨v', h1, hF, hat⟩ := hg
  have hF : Fr (fun b => b = R) w w' := hF
  refine ⟨v', ⟨h1, Kd.R_kept h.l (S := fun k => k = R) ⟨hF.size, fun i hi hn => hF.blk i hi hn⟩ (fun k hk => hk.2), Kd.R_kept h.j (S := fun k => k = R) ⟨hF.size, fun i hi hn => hF.blk i hi hn⟩ (fun k hk => hk.2)⟩, fun k hk => ⟨fun e => ?_, (ha k hk).2⟩, hF.weak (fun k e => .inl e), fun k hk => ?_⟩
  · rcases hat with rfl | hat
    · exact (ha k hk).1 e
    · have := hat k e
      have := h.vjlt k hk
      omega
  · rcases hk with hk | hk | hk | hk
    · exact .inl (.inl hk)
    · rcases hat with rfl | hat
      · exact .inl (.inr (.inl hk))
      · exact .inr (hat k hk)
    · exact .inl (.inr (.inr (.inl hk)))
    · exact .inl (.inr (.inr (.inr hk)))
/-- gone was called. -/
theorem RB.goJ (h : RB N w R vq vl vj ag rm ct last tr LQ Ls Js) (ha : Apart vq vl vj) (hg : JGo N w R vq vl w' ag rm ct last tr LQ Ls Js') : ∃ vj', RB N w' R vq vl vj' ag rm ct last tr LQ Ls Js' ∧ Apart vq vl vj' ∧ Mv w (own3 R vq vl vj) w' (own3 R vq vl vj') := by
  obtain ⟨v', h1, hF, hat⟩ := hg
  refine ⟨v', h1, fun k hk => ⟨fun e => ?_, fun e => ?_⟩, hF.weak (fun k e => .inl e), fun k hk => ?_⟩
  · have := hat k hk; have := h.vqlt k e; omega
  · have := hat k hk; have := h.vllt k e; omega
  · rcases hk with hk | hk | hk | hk
    · exact .inl (.inl hk)
    · exact .inl (.inr (.inl hk))
    · exact .inl (.inr (.inr (.inl hk)))
    · exact .inr (hat k hk)
/-- The table was called. -/
theorem RB.goL {last1 : Int} (h : RB N w R vq vl vj ag rm ct last tr LQ Ls Js) (ha : Apart vq vl vj) (hg : LGo N w R vq vj w' ag rm ct last1 tr LQ Ls' Js) : ∃ vl', RB N w' R vq vl' vj ag rm ct last1 tr LQ Ls' Js ∧ Apart vq vl' vj ∧ Mv w (own3 R vq vl vj) w' (own3 R vq vl' vj) := by
  obtain ⟨v', h1, hF, hat⟩ := hg
  refine ⟨v', h1, fun k hk => ⟨(ha k hk).1, fun e => ?_⟩, hF.weak (fun k e => .inl e), fun k hk => ?_⟩
  · have := hat k e; have := h.vjlt k hk; omega
  · rcases hk with hk | hk | hk | hk
    · exact .inl (.inl hk)
    · exact .inl (.inr (.inl hk))
    · exact .inr (hat k hk)
    · exact .inl (.inr (.inr (.inr hk)))
theorem flat_set : ∀ (xs : List Jb) (i : Nat) (h : i < xs.length) (s u : Int), ((CatJ.flat xs).set (i * 4 + 2) (.int .i64 s)).set (i * 4 + 3) (.int .i64 u) = CatJ.flat (xs.set i ⟨xs[i].id, xs[i].cls, s, u⟩)
  | [], i, h, _, _ => by simp at h
  | x :: xs, 0, h, s, u => by rfl
  | x :: xs, i + 1, h, s, u => by
    have ih := flat_set xs i (by simpa using h) s u
    rw [CatJ.flat_cons, show (i + 1) * 4 + 2 = (i * 4 + 2) + 4 by omega, show (i + 1) * 4 + 3 = (i * 4 + 3) + 4 by omega]
    show (CatJ.enc x ++ ((CatJ.flat xs).set (i * 4 + 2) (.int .i64 s)).set (i * 4 + 3) (.int .i64 u)) = _
    rw [ih]
    rfl
/-- A job's place in memory. -/
theorem RB.elem (h : RB N w R vq vl vj ag rm ct last tr LQ Ls Js) (i : Nat) (hi : i < Js.length) : ∃ g cap, vj = .slice (some ⟨g, 0, none⟩) Js.length cap ∧ g ≠ R ∧ g < w.heap.size ∧ (∀ j, w.frozen? ⟨g, j, none⟩ = false) ∧ w.cell? ⟨g, i * 4 + 1, none⟩ = some (.int .i64 Js[i].cls) ∧ w.cell? ⟨g, i * 4 + 2, none⟩ = some (.int .i64 Js[i].st) ∧ w.cell? ⟨g, i * 4 + 3, none⟩ = some (.int .i64 Js[i].us) := by
  have ho := CatJ.own_of_R h.j
  obtain ⟨g, cap, e, hb, hl⟩ := ho.form (by omega)
  have hok := h.j.1 g (by rw [e]; rfl)
  rw [e] at ho
  have hc : ∀ j, j < Js.length * 4 → w.cell? ⟨g, j, none⟩ = (CatJ.flat Js)[j]? := fun j hj => ho.cellAt j hj
  have hfl : ∀ (xs : List Jb) (i : Nat) (h : i < xs.length), (CatJ.flat xs)[i * 4 + 1]? = some (.int .i64 xs[i].cls) ∧ (CatJ.flat xs)[i * 4 + 2]? = some (.int .i64 xs[i].st) ∧ (CatJ.flat xs)[i * 4 + 3]? = some (.int .i64 xs[i].us) := by
    intro xs
    induction xs with
    | nil => intro i h; simp at h
    | cons x xs ih =>
      intro i h
      cases i with
      | zero => exact ⟨rfl, rfl, rfl⟩
      | succ i =>
        have := ih i (by simpa using h)
        rw [CatJ.flat_cons, show (i + 1) * 4 + 1 = (i * 4 + 1) + 4 by omega, show (i + 1) * 4 + 2 = (i * 4 + 2) + 4 by omega, show (i + 1) * 4 + 3 = (i * 4 + 3) + 4 by omega]
        exact this
  obtain ⟨f1, f2, f3⟩ := hfl Js i hi
  exact ⟨g, cap, e, hok.2, hl, fun j => ho.frozenAt j, (hc _ (by omega)).trans f1, (hc _ (by omega)).trans f2, (hc _ (by omega)).trans f3⟩
/-- A job stands otherwise. -/
theorem RB.setJ {g cap n : Nat} (h : RB N w R vq vl (.slice (some ⟨g, 0, none⟩) n cap) ag rm ct last tr LQ Ls Js) (ha : Apart vq vl (.slice (some ⟨g, 0, none⟩) n cap)) (i : Nat) (hi : i < Js.length) (s u : Int) :
    RB N ((w.setCell ⟨g, i * 4 + 2, none⟩ (.int .i64 s)).setCell ⟨g, i * 4 + 3, none⟩ (.int .i64 u)) R vq vl (.slice (some ⟨g, 0, none⟩) n cap) ag rm ct last tr LQ Ls (Js.set i ⟨Js[i].id, Js[i].cls, s, u⟩) ∧ Fr (fun k => k = g) w ((w.setCell ⟨g, i * 4 + 2, none⟩ (.int .i64 s)).setCell ⟨g, i * 4 + 3, none⟩ (.int .i64 u)) := by
  have hF : Fr (fun k => k = g) w ((w.setCell ⟨g, i * 4 + 2, none⟩ (.int .i64 s)).setCell ⟨g, i * 4 + 3, none⟩ (.int .i64 u)) := Fr.then_ (Fr.set _ _ _ _) (Fr.set _ _ _ _) (fun k e => .inl e)
  have hag := ha g rfl
  have hok := h.j.1 g rfl
  have hn := (Kd.R_reads' h.j).1
  have ho := CatJ.own_of_R h.j
  rw [← hn] at ho
  have h1 := ho.stored (i * 4 + 2) (.int .i64 s)
  have h2 := h1.1.stored (i * 4 + 3) (.int .i64 u)
  have h3 := h2.1
  rw [flat_set Js i hi s u] at h3
  have hlen : (Js.set i ⟨Js[i].id, Js[i].cls, s, u⟩).length = n := by rw [List.length_set]; exact hn.symm
  rw [← hlen] at h3
  refine ⟨⟨h.q.keep hF (fun e => hok.2 e.symm) (fun k hk e => hag.1 (e ▸ hk)), Kd.R_kept h.l (S := fun k => k = g) ⟨hF.size, fun i hi hn => hF.blk i hi hn⟩ (fun k hk e => hag.2 (e ▸ hk.1)), ?_⟩, hF⟩
  have h4 := CatJ.R_of_own h3
  rw [hlen] at h4
  exact Kd.R_mono (Kd.R_tight2 rfl h4) (fun k hk => ⟨hk.1.symm, fun e => hok.2 (by rw [← Option.some.inj hk.1.symm] at *; exact e)⟩)
theorem Mv.set {g cap n : Nat} (hF : Fr (fun k => k = g) w w') : Mv w (own3 R vq vl (.slice (some ⟨g, 0, none⟩) n cap)) w' (own3 R vq vl (.slice (some ⟨g, 0, none⟩) n cap)) := ⟨hF.weak (fun k e => .inr (.inr (.inr (by rw [e]; rfl)))), fun _ h => .inl h⟩
/-- A job is appended. -/
theorem RB.addJ {W1 w2 : World} {v1 : Value} (h : RB N w R vq vl vj ag rm ct last tr LQ Ls Js) (ha : Apart vq vl vj) (hb : Below w.heap.size w W1) (k1 : Kd.R CatJ.k98 98 w2 N (fun _ => True) v1 Js') (k3 : Fr (fun k => vj.ownBlock = some k) W1 w2) (k4 : v1.ownBlock = vj.ownBlock ∨ ∃ b, v1.ownBlock = some b ∧ W1.heap.size ≤ b) :
    RB N (w2.setCell ⟨R, 7, none⟩ v1) R vq vl v1 ag rm ct last tr LQ Ls Js' ∧ Apart vq vl v1 ∧ Mv w (own3 R vq vl vj) (w2.setCell ⟨R, 7, none⟩ v1) (own3 R vq vl v1) := by
  have h1 := h.step hb
  have hlt := blk_lt h.blk
  have hsz := hb.size
  have hjR : ∀ k, vj.ownBlock = some k → k ≠ R := fun k hk => (h.j.1 k hk).2
  have hvR : ∀ k, v1.ownBlock = some k → k ≠ R := by
    intro k hk
    rcases k4 with k4 | ⟨b, k4, hb⟩
    · exact hjR k (k4 ▸ hk)
    · have : b = k := Option.some.inj (k4.symm.trans hk)
      omega
  have hq2 : RS N w2 (.big R vl (.int .i64 last) (.int .i64 tr) vj) vq ag rm ct LQ := h1.q.keep k3 (fun e => hjR R e rfl) (fun k hk e => (ha k e).1 hk)
  have hl2 := Kd.R_kept h1.l (S := fun k => vj.ownBlock = some k) ⟨k3.size, fun i hi hn => k3.blk i hi hn⟩ (fun k hk e => (ha k e).2 hk.1)
  have hg2 : w2.heap[R]? = some (.cells #[.int .i64 ag, .int .i64 rm, .int .i64 ct, vq, vl, .int .i64 last, .int .i64 tr, vj] 96 (0, 0)) := hq2.g
  have hk : ∀ i, i < w2.heap.size → ¬ i = R → (w2.setCell ⟨R, 7, none⟩ v1).heap[i]? = w2.heap[i]? := fun i _ hn => Below.heap_setCell w2 ⟨R, 7, none⟩ v1 i hn
  have hs : w2.heap.size ≤ (w2.setCell ⟨R, 7, none⟩ v1).heap.size := by simp [World.setCell]
  refine ⟨⟨⟨?_, Kd.R_kept hq2.r (S := fun k => k = R) ⟨hs, hk⟩ (fun k hk => hk.2), h.q.nr⟩, Kd.R_kept hl2 (S := fun k => k = R) ⟨hs, hk⟩ (fun k hk => hk.2), Kd.R_kept (Kd.R_mono (Kd.R_tight2 rfl k1) (fun k hk => ⟨hk.1.symm, hvR k hk.1.symm⟩)) (S := fun k => k = R) ⟨hs, hk⟩ (fun k hk => hk.2)⟩, fun k hk => ?_, ⟨?_, fun k hk => ?_⟩⟩
  · exact blk_set hg2 7 v1
  · rcases k4 with k4 | ⟨b, k4, hb2⟩
    · exact ha k (k4 ▸ hk)
    · have e : b = k := Option.some.inj (k4.symm.trans hk)
      refine ⟨fun e2 => ?_, fun e2 => ?_⟩
      · have := h.vqlt k e2; omega
      · have := h.vllt k e2; omega
  · exact Fr.then_ (Fr.then_ (Fr.of_below (F := own3 R vq vl vj) hb) k3 (fun b e => .inl (.inr (.inr (.inr e))))) (Fr.set w2 R 7 v1) (fun b e => .inl (.inl e))
  · rcases hk with hk | hk | hk | hk
    · exact .inl (.inl hk)
    · exact .inl (.inr (.inl hk))
    · exact .inl (.inr (.inr (.inl hk)))
    · rcases k4 with k4 | ⟨b, k4, hb2⟩
      · exact .inl (.inr (.inr (.inr (k4 ▸ hk))))
      · have e : b = k := Option.some.inj (k4.symm.trans hk)
        exact .inr (by omega)
end
end Go.Proofs.Ytfkebbkfmchnaaa.Bk

set_option linter.unusedVariables false
namespace Go.Proofs.Ytfkebbkfmchnaaa.Bk
open Go.RowKit Go.Proofs.Ytfkebbkfmchnaaa.PBase Go.Proofs.Ytfkebbkfmchnaaa.Heap Go.Proofs.Ytfkebbkfmchnaaa.Ln Go.Proofs.Ytfkebbkfmchnaaa.Lst Go.Proofs.YtfkebbkfmchnaaaW.PrintWords Go.Proofs.YtfkebbkfmchnaaaW.PrintLast Go.Proofs.YtfkebbkfmchnaaaW.PrintMore
theorem g_lit0 (W : World) : Kd.R CatG.k85 85 (W.alloc (.cells #[] 85)) W.heap.size (fun _ => True) (.slice (some ⟨W.heap.size, 0, none⟩) 0 0) [] := by
  refine ⟨fun _ _ => trivial, OwnRow.lit W W.heap.size (inner := CatG.flat []) ?_ (Nat.le_refl _) (by simp)⟩
  exact CatG.reps_flat (fun x => CatG.k85_mkM _ _ _ x) []
theorem g_one (W : World) (id cl ct : Int) {b : Nat} (hb : b ≤ W.heap.size) : Kd.R CatG.k85 85 (W.alloc (.cells #[.int .i64 id, .int .i64 cl, .int .u64 ct] 85)) b (fun k => k = W.heap.size) (.slice (some ⟨W.heap.size, 0, none⟩) 1 1) [(⟨id, cl, ct⟩ : Gr)] :=
  Kd.R_mono (Kd.R_tight2 rfl (Kd.R_lower (CatG.R_lit1 W ⟨id, cl, ct⟩) hb)) (fun k hk => Option.some.inj hk.1)
theorem g_reads1 {W : World} {b g : Nat} {ok : Nat → Prop} {x : Gr} (h : Kd.R CatG.k85 85 W b ok (.slice (some ⟨g, 0, none⟩) 1 1) [x]) : Kd.C CatG.k85 W (some ⟨g, 0, none⟩) 1 [x] := by
  obtain ⟨A, c, e, _, hC⟩ := Kd.R_reads h
  cases e
  exact hC
/-- append(v, ys...), v the call's own: what is none of v's block stays. -/
theorem g_rows2 {W : World} {base : Nat} {ok : Nat → Prop} {v : Value} {xs : List Gr} (ty : TypeId) (A : Option Addr) (m c : Nat) (ys : List Gr) (HO : Kd.R CatG.k85 85 W base ok v xs) (HR : Kd.C CatG.k85 W A m ys) (hbase : base ≤ W.heap.size) (hl : (xs.length + m) * 24 ≤ 140737488355328) :
    ∃ v1 w1, (Builtin.append_ #[91, 91] ty #[v, .slice A m c]).run Try.prog W = .ok v1 w1 ∧ Kd.R CatG.k85 85 w1 base (fun _ => True) v1 (xs ++ ys) ∧ Below base W w1 ∧ Fr (fun k => v.ownBlock = some k) W w1 := by
  obtain ⟨i0, hi, hzz⟩ := Option.map_eq_some_iff.1 CatG.info85
  simp only [Prod.mk.injEq] at hzz
  obtain ⟨hz0, hz1, hz2⟩ := hzz
  have hyl : ys.length = m := HR.1
  have hown := CatG.own_of_R HO
  rcases A with _ | ad
  · have h0 : m = 0 := by
      rcases Nat.eq_zero_or_pos m with h0 | h0
      · exact h0
      · obtain ⟨ad, h, _⟩ := HR.2.2 h0
        cases h
    subst h0
    obtain rfl : ys = [] := List.eq_nil_of_length_eq_zero hyl
    refine ⟨v, W, ?_, by rw [List.append_nil]; exact Kd.R_mono HO (fun _ _ => trivial), Below.refl _ _, Fr.refl _ _⟩
    rcases hown.2 with ⟨rfl, hn⟩ | ⟨g, cap, cur, rfl, _, _, hnc, _⟩
    · simp [Builtin.append_, run_underlying Try.underlying91, sizeOf, typeInfo, hi, Builtin.lenOf, Builtin.firstCells]
    · simp [Builtin.append_, run_underlying Try.underlying91, sizeOf, typeInfo, hi, Builtin.lenOf, Builtin.firstCells, hnc, storeCells]
  · obtain ⟨v1, w1, hrun, h2, hg, _, _⟩ := run_append_own_at (P := Try.prog) W base 91 ty 85 i0 _ 3 24 Try.underlying91 hi hz0 hz1 hz2 rfl (by decide) v xs.length (CatG.flat xs) hown ad m c (CatG.flat ys) (by rw [CatG.flat_len, hyl]) (CatG.C_cells HR) CatG.flat_one (by simp only [maxLen]; omega) hl hbase
    refine ⟨v1, w1, hrun, CatG.R_of_own ?_, ⟨hg.os, hg.tape, hg.output, hg.size, fun k hk => hg.block k (Nat.lt_of_lt_of_le hk hbase) (fun he => by have := own_base hown k he.symm; omega)⟩, Fr.of_grown hg (fun k e => e)⟩
    rw [← CatG.flat_append, ← hyl, ← List.length_append] at h2
    exact h2
section
variable {ops : Array Oper} {o : Oper} {a : Act} {Q : Exit → Act → World → Prop} {K : Act → World → Prop}
theorem g_step2 {W : World} (base : Nat) {ok : Nat → Prop} (hw : Region.wanted o (yielded ops a.tmps) = true) (s x : Operand) (ho : o.op = .call { callee := .builtin .append, args := #[s, x], argTypes := #[91, 91] })
    (v : Value) (xs : List Gr) (A : Option Addr) (m c : Nat) (ys : List Gr) (hs : a.eval s = v) (hx : a.eval x = .slice A m c) (HO : Kd.R CatG.k85 85 W base ok v xs) (HR : Kd.C CatG.k85 W A m ys) (hbase : base ≤ W.heap.size) (hl : (xs.length + m) * 24 ≤ 140737488355328)
    (h : ∀ v1 w1, Kd.R CatG.k85 85 w1 base (fun _ => True) v1 (xs ++ ys) → Below base W w1 → Fr (fun k => v.ownBlock = some k) W w1 → K (a.put o.dst v1) w1) :
    if Region.wanted o (yielded ops a.tmps) = true then Oper.wp Try.prog o a W K Q else K (a.put o.dst undef) W := by
  obtain ⟨v1, w1, hr, h1, h2, h3⟩ := g_rows2 o.type A m c ys HO HR hbase hl
  refine event_step hw ?_ (h v1 w1 h1 h2 h3)
  unfold execOp
  simp only [ho, resolve, invoke, builtin, Sem.run_bind, Sem.run_pure, Result.andThen_ok, List.map_toArray, List.map_cons, List.map_nil, hs, hx, hr]
end
section
variable {N : Nat} {w : World} {R : Nat} {vq vl vj : Value} {ag rm ct last tr : Int} {LQ : List S77} {Ls : List Gr} {Js : List Jb}
theorem fld104 (n j u : Int) (ok : Bool) (w : World) : (Instr.field 104 (.agg #[.int .i64 n, .int .i64 j, .int .u64 u, .bool ok]) 1).run Try.prog w = .ok (.bool ok) w := by
  simp [Instr.field, run_underlying Try.underlying104, part, asAgg, go_sem]
theorem grant_end {W2 w4 : World} {L0 L2 L3 : List Gr} {A5 : Option Addr} {c5 n5 : Nat} {c1 : Int} (h : RB N W2 R vq vl vj ag rm ct c1 tr LQ L0 Js) (hb : Fr (fun k => k = R) w W2) (hb4 : Below W2.heap.size W2 w4) (hV : Kd.R CatG.k85 85 w4 W2.heap.size (fun _ => True) (.slice A5 L2.length c5) L2) (hn : L2.length = n5) (hL : L2 = L3) :
    Aside0 (LGo N w R vq vj (w4.setCell ⟨R, 4, none⟩ (.slice A5 n5 c5)) ag rm ct c1 tr LQ L3 Js) := by
  subst hn hL
  refine ⟨_, h.putL hb4 hV, ?_, fun b hb1 => Nat.le_trans hb.size (own_base (CatG.own_of_R hV) b hb1)⟩
  exact Fr.then_ (Fr.then_ hb (Fr.of_below (F := fun k => k = R) hb4) (fun _ h => .inl h)) (Fr.set w4 R 4 _) (fun _ h => .inl h)
set_option maxHeartbeats 8000000 in
set_option maxRecDepth 100000 in
theorem rgrant (h : RB N w R vq vl vj ag rm ct last tr LQ Ls Js) (x un : Int) (hx : lk gjo Ls x = none) (hl : Ls.length ≤ 100000) (c1 : Int) (hc1 : IntKind.i64.wrap (last + 1) = c1) :
    Calls Try.prog 47 #[.pointer (some ⟨R, 4, none⟩), .int .i64 x, .int .u64 un] w fun e w' => e = .returned (.tuple #[.int .i64 c1, .int .i64 0]) ∧ Aside0 (LGo N w R vq vj w' ag rm ct c1 tr LQ (Ls ++ [⟨c1, x, un⟩]) Js) := by
  have hf := rof12 h x (by omega) ⟨0, 0, 0⟩ (by rw [hx]; rfl) false (by rw [hx]; rfl)
  have HLL : Aside0 (Ls.length ≤ 100000) := ⟨hl⟩
  have H := Aside0.mk h
  have hfd := fld104 0 0 0 false
  clear h hx
  go_enter Try.func47, Try.ntmps47
  go_upto_region 3 with (go_at_call 52; refine hf.mono ?_; rintro e w1 ⟨rfl, hb1⟩; clear hf)
  clear hfd
  have HM := Aside0.mk (H.out.step hb1)
  have s5 : w1.cell? ⟨R, 5, none⟩ = some (.int .i64 last) := (blk_cell HM.out.blk 5).trans rfl
  have f5 := blk_frozen HM.out.blk 5
  go_wp2
  have HM1 := Aside0.mk (HM.out.putLast c1)
  have hB1 := Aside0.mk (Fr.then_ (Fr.of_below (F := fun k => k = R) hb1) (Fr.set w1 R 5 (.int .i64 c1)) (fun _ h => .inl h))
  clear s5 f5 HM hb1 hc1
  generalize w1.setCell ⟨R, 5, none⟩ (.int .i64 c1) = w5 at HM1 hB1 ⊢
  obtain ⟨A, c, rfl, hc, hC⟩ := Kd.R_reads HM1.out.l
  have HC := Aside0.mk hC
  clear hC
  have c3 : w5.cell? ⟨R, 4, none⟩ = some (.slice A Ls.length c) := (blk_cell HM1.out.blk 4).trans rfl
  have c2 : w5.cell? ⟨R, 5, none⟩ = some (.int .i64 c1) := (blk_cell HM1.out.blk 5).trans rfl
  refine start_ (n := 19) (S := fun w' => w'.cell? ⟨R, 4, none⟩ = some (.slice A Ls.length c) ∧ w'.cell? ⟨R, 5, none⟩ = some (.int .i64 c1)) (ds := [18]) #[false, false, false, false, false, false, false, false, false, false, false, false, false, false, false, false, false, false, false] (by kernel_rfl) rfl rfl ⟨c3, c2⟩ (fun hHeld => ?_)
  have hb2 := below_drew1 (Below.refl w5.heap.size w5)
  have HM2 := Aside0.mk (HM1.out.step hb2)
  have hBw := Aside0.mk (hB1.out.trans (Fr.of_below (F := fun k => k = R) hb2))
  have HC2 := Aside0.mk (Kd.C_below HC.out hb2)
  generalize w5.drew = W2 at hHeld HM2 hBw HC2 ⊢
  clear c3 c2 hb2 HM1 hB1 HC
  have HG2 := Aside0.mk HM2.out.blk
  have hB0 := Aside0.mk (Below.refl W2.heap.size W2)
  have hlt := blk_lt HM2.out.blk
  have kp : Aside0 (∀ w', Below W2.heap.size W2 w' → w'.cell? ⟨R, 4, none⟩ = some (.slice A Ls.length c) ∧ w'.cell? ⟨R, 5, none⟩ = some (.int .i64 c1)) := ⟨fun w' hb => ⟨(hb.cell (p := ⟨R, 4, none⟩) hlt).trans hHeld.1, (hb.cell (p := ⟨R, 5, none⟩) hlt).trans hHeld.2⟩⟩
  clear hlt
  refine pure_ (i := 0) (N := some 19) (v := ?_) (a' := ?_) #[true, false, false, false, false, false, false, false, false, false, false, false, false, false, false, false, false, false, false] rfl rfl (by kernel_rfl) (fun _ _ _ h => h) (Or.inl ⟨by rfl, ?_⟩) ?_ ?_
  rotate_left
  · intro w'
    go_simp
    with_reducible rfl
  rotate_left
  · simp only [Act.put, List.setIfInBounds_toArray, List.set_cons_zero, List.set_cons_succ]
    rfl
  refine pure_ (i := 2) (N := some 21) (v := ?_) (a' := ?_) #[true, false, true, false, false, false, false, false, false, false, false, false, false, false, false, false, false, false, false] rfl rfl (by kernel_rfl) (fun _ _ _ h => h) (Or.inl ⟨by rfl, ?_⟩) ?_ ?_
  rotate_left
  · intro w'
    go_simp
    with_reducible rfl
  rotate_left
  · simp only [Act.put, List.setIfInBounds_toArray, List.set_cons_zero, List.set_cons_succ]
    rfl
  refine pure_ (i := 3) (N := some 22) (v := ?_) (a' := ?_) #[true, false, true, true, false, false, false, false, false, false, false, false, false, false, false, false, false, false, false] rfl rfl (by kernel_rfl) (fun _ _ _ h => h) (Or.inl ⟨by rfl, ?_⟩) ?_ ?_
  rotate_left
  · intro w'
    go_simp
    with_reducible rfl
  rotate_left
  · simp only [Act.put, List.setIfInBounds_toArray, List.set_cons_zero, List.set_cons_succ]
    rfl
  refine pure_ (i := 4) (N := some 23) (v := ?_) (a' := ?_) #[true, false, true, true, true, false, false, false, false, false, false, false, false, false, false, false, false, false, false] rfl rfl (by kernel_rfl) (fun _ _ _ h => h) (Or.inl ⟨by rfl, ?_⟩) ?_ ?_
  rotate_left
  · intro w'
    go_simp
    with_reducible rfl
  rotate_left
  · simp only [Act.put, List.setIfInBounds_toArray, List.set_cons_zero, List.set_cons_succ]
    rfl
  refine take_ (i := 5) (N := some 24) (v := ?_) (a' := ?_) #[true, false, true, true, true, true, false, false, false, false, false, false, false, false, false, false, false, false, false] rfl rfl (by kernel_rfl) (fun _ _ _ h => h) (Or.inl ⟨by rfl, ?_⟩) hHeld ?_ ?_
  rotate_left
  · rintro w' ⟨s0, s1⟩
    go_simp
    with_reducible rfl
  rotate_left
  · simp only [Act.put, List.setIfInBounds_toArray, List.set_cons_zero, List.set_cons_succ]
    rfl
  refine pure_ (i := 7) (N := some 26) (v := ?_) (a' := ?_) #[true, false, true, true, true, true, false, true, false, false, false, false, false, false, false, false, false, false, false] rfl rfl (by kernel_rfl) (fun _ _ _ h => h) (Or.inl ⟨by rfl, ?_⟩) ?_ ?_
  rotate_left
  · intro w'
    go_simp
    with_reducible rfl
  rotate_left
  · simp only [Act.put, List.setIfInBounds_toArray, List.set_cons_zero, List.set_cons_succ]
    rfl
  refine pure_ (i := 8) (N := some 27) (v := ?_) (a' := ?_) #[true, false, true, true, true, true, false, true, true, false, false, false, false, false, false, false, false, false, false] rfl rfl (by kernel_rfl) (fun _ _ _ h => h) (Or.inl ⟨by rfl, ?_⟩) ?_ ?_
  rotate_left
  · intro w'
    go_simp
    with_reducible rfl
  rotate_left
  · simp only [Act.put, List.setIfInBounds_toArray, List.set_cons_zero, List.set_cons_succ]
    rfl
  refine pure_ (i := 9) (N := some 28) (v := ?_) (a' := ?_) #[true, false, true, true, true, true, false, true, true, true, false, false, false, false, false, false, false, false, false] rfl rfl (by kernel_rfl) (fun _ _ _ h => h) (Or.inl ⟨by rfl, ?_⟩) ?_ ?_
  rotate_left
  · intro w'
    go_simp
    with_reducible rfl
  rotate_left
  · simp only [Act.put, List.setIfInBounds_toArray, List.set_cons_zero, List.set_cons_succ]
    rfl
  refine take_ (i := 10) (N := some 29) (v := ?_) (a' := ?_) #[true, false, true, true, true, true, false, true, true, true, true, false, false, false, false, false, false, false, false] rfl rfl (by kernel_rfl) (fun _ _ _ h => h) (Or.inl ⟨by rfl, ?_⟩) hHeld ?_ ?_
  rotate_left
  · rintro w' ⟨s0, s1⟩
    go_simp
    with_reducible rfl
  rotate_left
  · simp only [Act.put, List.setIfInBounds_toArray, List.set_cons_zero, List.set_cons_succ]
    rfl
  refine pure_ (i := 11) (N := some 30) (v := ?_) (a' := ?_) #[true, false, true, true, true, true, false, true, true, true, true, true, false, false, false, false, false, false, false] rfl rfl (by kernel_rfl) (fun _ _ _ h => h) (Or.inl ⟨by rfl, ?_⟩) ?_ ?_
  rotate_left
  · intro w'
    go_simp
    with_reducible rfl
  rotate_left
  · simp only [Act.put, List.setIfInBounds_toArray, List.set_cons_zero, List.set_cons_succ]
    rfl
  refine pure_ (i := 12) (N := some 31) (v := ?_) (a' := ?_) #[true, false, true, true, true, true, false, true, true, true, true, true, true, false, false, false, false, false, false] rfl rfl (by kernel_rfl) (fun _ _ _ h => h) (Or.inl ⟨by rfl, ?_⟩) ?_ ?_
  rotate_left
  · intro w'
    go_simp
    with_reducible rfl
  rotate_left
  · simp only [Act.put, List.setIfInBounds_toArray, List.set_cons_zero, List.set_cons_succ]
    rfl
  refine pure_ (i := 13) (N := some 32) (v := ?_) (a' := ?_) #[true, false, true, true, true, true, false, true, true, true, true, true, true, true, false, false, false, false, false] rfl rfl (by kernel_rfl) (fun _ _ _ h => h) (Or.inl ⟨by rfl, ?_⟩) ?_ ?_
  rotate_left
  · intro w'
    go_simp
    with_reducible rfl
  rotate_left
  · simp only [Act.put, List.setIfInBounds_toArray, List.set_cons_zero, List.set_cons_succ]
    rfl
  refine two_ (i := 1) (j := 14) (Ni := some 20) (Nj := some 33) #[true, true, true, true, true, true, false, true, true, true, true, true, true, true, false, false, false, false, false] #[true, false, true, true, true, true, false, true, true, true, true, true, true, true, true, false, false, false, false] rfl rfl rfl rfl (by kernel_rfl) (by decide) (by decide) (fun K hK => ?_) (fun K hK => ?_)
  · refine event_step (v := .slice (some ⟨W2.heap.size, 0, none⟩) 0 0) (w1 := W2.alloc (.cells #[] 85)) (by rfl) (by go_simp) ?_
    have hB1 := Aside0.mk (hB0.out.trans (below_lower (below_alloc (Below.refl W2.heap.size W2) (.cells #[] 85)) hB0.out.size))
    have hV1 := Aside0.mk (Kd.R_lower (g_lit0 W2) hB0.out.size)
    refine hK.out _ _ (kp.out _ hB1.out) (fun hHeld => ?_)
    clear hK K
    refine norm_ (a' := ?_) ?_ ?_
    rotate_left
    · show Act.put _ (some 20) _ = _
      simp only [Act.put, List.setIfInBounds_toArray, List.set_cons_zero, List.set_cons_succ]
      rfl
    generalize hq1 : W2.alloc (.cells #[] 85) = w11 at hB1 hHeld hV1 ⊢
    clear hq1
    refine two_ (i := 6) (j := 14) (Ni := some 25) (Nj := some 33) #[true, true, true, true, true, true, true, true, true, true, true, true, true, true, false, false, false, false, false] #[true, true, true, true, true, true, false, true, true, true, true, true, true, true, true, false, false, false, false] rfl rfl rfl rfl (by kernel_rfl) (by decide) (by decide) (fun K hK => ?_) (fun K hK => ?_)
    · refine g_step2 (K := _) W2.heap.size (by rfl) (.tmp 20) (.tmp 24) (by rfl) (.slice (some ⟨W2.heap.size, 0, none⟩) 0 0) [] A Ls.length c Ls (by rfl) (by rfl) hV1.out (Kd.C_below HC2.out hB1.out) hB1.out.size (by simp only [List.length_nil]; have := HLL.out; omega) ?_
      intro v2 w12 hv2 hb2 hf2
      have hB2 := Aside0.mk (hB1.out.trans hb2)
      have hV2 := Aside0.mk hv2
      refine hK.out _ _ (kp.out _ hB2.out) (fun hHeld => ?_)
      clear hK K
      refine norm_ (a' := ?_) ?_ ?_
      rotate_left
      · show Act.put _ (some 25) _ = _
        simp only [Act.put, List.setIfInBounds_toArray, List.set_cons_zero, List.set_cons_succ]
        rfl
      clear hv2 hb2 hf2
      refine one_ (i := 14) (N := some 33) #[true, true, true, true, true, true, true, true, true, true, true, true, true, true, true, false, false, false, false] rfl rfl (by kernel_rfl) (by decide) (fun K hK => ?_)
      refine event_step (v := .slice (some ⟨w12.heap.size, 0, none⟩) 1 1) (w1 := w12.alloc (.cells #[.int .i64 c1, .int .i64 x, .int .u64 un] 85)) (by rfl) (by go_simp) ?_
      have hB3 := Aside0.mk (hB2.out.trans (below_lower (below_alloc (Below.refl w12.heap.size w12) (.cells #[.int .i64 c1, .int .i64 x, .int .u64 un] 85)) hB2.out.size))
      have hX3 := Aside0.mk (g_one w12 c1 x un hB2.out.size)
      have hV3 := Aside0.mk (Kd.R_below hV2.out (below_alloc (Below.refl _ _) (.cells #[.int .i64 c1, .int .i64 x, .int .u64 un] 85)))
      refine hK.out _ _ (kp.out _ hB3.out) (fun hHeld => ?_)
      clear hK K
      refine norm_ (a' := ?_) ?_ ?_
      rotate_left
      · show Act.put _ (some 33) _ = _
        simp only [Act.put, List.setIfInBounds_toArray, List.set_cons_zero, List.set_cons_succ]
        rfl
      generalize hq3 : w12.alloc (.cells #[.int .i64 c1, .int .i64 x, .int .u64 un] 85) = w13 at hB3 hHeld hX3 hV3 ⊢
      clear hq3
      refine one_ (i := 15) (N := some 34) #[true, true, true, true, true, true, true, true, true, true, true, true, true, true, true, true, false, false, false] rfl rfl (by kernel_rfl) (by decide) (fun K hK => ?_)
      refine g_step2 (K := _) W2.heap.size (by rfl) (.tmp 25) (.tmp 33) (by rfl) v2 ([] ++ Ls) (some ⟨w12.heap.size, 0, none⟩) 1 1 [(⟨c1, x, un⟩ : Gr)] (by rfl) (by rfl) hV3.out (g_reads1 hX3.out) hB3.out.size (by rw [List.nil_append]; have := HLL.out; omega) ?_
      intro v4 w14 hv4 hb4 hf4
      have hB4 := Aside0.mk (hB3.out.trans hb4)
      have hV4 := Aside0.mk hv4
      refine hK.out _ _ (kp.out _ hB4.out) (fun hHeld => ?_)
      clear hK K
      refine norm_ (a' := ?_) ?_ ?_
      rotate_left
      · show Act.put _ (some 34) _ = _
        simp only [Act.put, List.setIfInBounds_toArray, List.set_cons_zero, List.set_cons_succ]
        rfl
      clear hv4 hb4 hf4
      refine pure_ (i := 16) (N := some 35) (v := ?_) (a' := ?_) #[true, true, true, true, true, true, true, true, true, true, true, true, true, true, true, true, true, false, false] rfl rfl (by kernel_rfl) (fun _ _ _ h => h) (Or.inl ⟨by rfl, ?_⟩) ?_ ?_
      rotate_left
      · intro w'
        go_simp
        with_reducible rfl
      rotate_left
      · simp only [Act.put, List.setIfInBounds_toArray, List.set_cons_zero, List.set_cons_succ]
        rfl
      refine pure_ (i := 17) (N := some 36) (v := ?_) (a' := ?_) #[true, true, true, true, true, true, true, true, true, true, true, true, true, true, true, true, true, true, false] rfl rfl (by kernel_rfl) (fun _ _ _ h => h) (Or.inl ⟨by rfl, ?_⟩) ?_ ?_
      rotate_left
      · intro w'
        go_simp
        with_reducible rfl
      rotate_left
      · simp only [Act.put, List.setIfInBounds_toArray, List.set_cons_zero, List.set_cons_succ]
        rfl
      refine last_ (i := 18) (N := none) #[true, true, true, true, true, true, true, true, true, true, true, true, true, true, true, true, true, true, true] rfl rfl (by kernel_rfl) (by decide) (fun K hK => ?_)
      obtain ⟨A5, c5, rfl⟩ := Kd.R_slice hV4.out
      have hB9 := Aside0.mk (blk_below HG2.out hB4.out)
      have hs : w14.cell? ⟨R, 4, none⟩ = some (.slice A Ls.length c) := (blk_cell hB9.out 4).trans rfl
      have hfs := blk_frozen hB9.out 4
      refine skip_ (w1 := ?_) (by rfl) rfl ?_ ?_
      rotate_left
      · go_simp
        rfl
      refine hK.out _ _ ?_
      clear hK K
      refine done_ (by kernel_rfl) ?_
      have c5 : w14.cell? ⟨R, 5, none⟩ = some (.int .i64 c1) := (blk_cell hB9.out 5).trans rfl
      go_wp2
      go_ret2
      exact ⟨rfl, grant_end HM2.out hBw.out hB4.out hV4.out (by simp) (by simp)⟩
    · refine event_step (v := .slice (some ⟨w11.heap.size, 0, none⟩) 1 1) (w1 := w11.alloc (.cells #[.int .i64 c1, .int .i64 x, .int .u64 un] 85)) (by rfl) (by go_simp) ?_
      have hB5 := Aside0.mk (hB1.out.trans (below_lower (below_alloc (Below.refl w11.heap.size w11) (.cells #[.int .i64 c1, .int .i64 x, .int .u64 un] 85)) hB1.out.size))
      have hX5 := Aside0.mk (g_one w11 c1 x un hB1.out.size)
      have hN5 : Aside0 (W2.heap.size ≠ w11.heap.size) := ⟨by have := own_lt (CatG.own_of_R hV1.out) _ rfl; simp only at this; omega⟩
      have hV5 := Aside0.mk (Kd.R_below hV1.out (below_alloc (Below.refl _ _) (.cells #[.int .i64 c1, .int .i64 x, .int .u64 un] 85)))
      refine hK.out _ _ (kp.out _ hB5.out) (fun hHeld => ?_)
      clear hK K
      refine norm_ (a' := ?_) ?_ ?_
      rotate_left
      · show Act.put _ (some 33) _ = _
        simp only [Act.put, List.setIfInBounds_toArray, List.set_cons_zero, List.set_cons_succ]
        rfl
      generalize hq5 : w11.alloc (.cells #[.int .i64 c1, .int .i64 x, .int .u64 un] 85) = w15 at hB5 hHeld hX5 hV5 ⊢
      clear hq5
      refine one_ (i := 6) (N := some 25) #[true, true, true, true, true, true, true, true, true, true, true, true, true, true, true, false, false, false, false] rfl rfl (by kernel_rfl) (by decide) (fun K hK => ?_)
      refine g_step2 (K := _) W2.heap.size (by rfl) (.tmp 20) (.tmp 24) (by rfl) (.slice (some ⟨W2.heap.size, 0, none⟩) 0 0) [] A Ls.length c Ls (by rfl) (by rfl) hV5.out (Kd.C_below HC2.out hB5.out) hB5.out.size (by simp only [List.length_nil]; have := HLL.out; omega) ?_
      intro v6 w16 hv6 hb6 hf6
      have hB6 := Aside0.mk (hB5.out.trans hb6)
      have hV6 := Aside0.mk hv6
      have hX6 := Aside0.mk (Kd.R_kept hX5.out (S := fun k => Value.ownBlock (.slice (some ⟨W2.heap.size, 0, none⟩) 0 0) = some k) ⟨hf6.size, fun i hi hn => hf6.blk i hi hn⟩ (fun k hk e => hN5.out (Option.some.inj (e.trans (congrArg some hk)))))
      refine hK.out _ _ (kp.out _ hB6.out) (fun hHeld => ?_)
      clear hK K
      refine norm_ (a' := ?_) ?_ ?_
      rotate_left
      · show Act.put _ (some 25) _ = _
        simp only [Act.put, List.setIfInBounds_toArray, List.set_cons_zero, List.set_cons_succ]
        rfl
      clear hv6 hb6 hf6
      refine one_ (i := 15) (N := some 34) #[true, true, true, true, true, true, true, true, true, true, true, true, true, true, true, true, false, false, false] rfl rfl (by kernel_rfl) (by decide) (fun K hK => ?_)
      refine g_step2 (K := _) W2.heap.size (by rfl) (.tmp 25) (.tmp 33) (by rfl) v6 ([] ++ Ls) (some ⟨w11.heap.size, 0, none⟩) 1 1 [(⟨c1, x, un⟩ : Gr)] (by rfl) (by rfl) hV6.out (g_reads1 hX6.out) hB6.out.size (by rw [List.nil_append]; have := HLL.out; omega) ?_
      intro v7 w17 hv7 hb7 hf7
      have hB7 := Aside0.mk (hB6.out.trans hb7)
      have hV7 := Aside0.mk hv7
      refine hK.out _ _ (kp.out _ hB7.out) (fun hHeld => ?_)
      clear hK K
      refine norm_ (a' := ?_) ?_ ?_
      rotate_left
      · show Act.put _ (some 34) _ = _
        simp only [Act.put, List.setIfInBounds_toArray, List.set_cons_zero, List.set_cons_succ]
        rfl
      clear hv7 hb7 hf7
      refine pure_ (i := 16) (N := some 35) (v := ?_) (a' := ?_) #[true, true, true, true, true, true, true, true, true, true, true, true, true, true, true, true, true, false, false] rfl rfl (by kernel_rfl) (fun _ _ _ h => h) (Or.inl ⟨by rfl, ?_⟩) ?_ ?_
      rotate_left
      · intro w'
        go_simp
        with_reducible rfl
      rotate_left
      · simp only [Act.put, List.setIfInBounds_toArray, List.set_cons_zero, List.set_cons_succ]
        rfl
      refine pure_ (i := 17) (N := some 36) (v := ?_) (a' := ?_) #[true, true, true, true, true, true, true, true, true, true, true, true, true, true, true, true, true, true, false] rfl rfl (by kernel_rfl) (fun _ _ _ h => h) (Or.inl ⟨by rfl, ?_⟩) ?_ ?_
      rotate_left
      · intro w'
        go_simp
        with_reducible rfl
      rotate_left
      · simp only [Act.put, List.setIfInBounds_toArray, List.set_cons_zero, List.set_cons_succ]
        rfl
      refine last_ (i := 18) (N := none) #[true, true, true, true, true, true, true, true, true, true, true, true, true, true, true, true, true, true, true] rfl rfl (by kernel_rfl) (by decide) (fun K hK => ?_)
      obtain ⟨A5, c5, rfl⟩ := Kd.R_slice hV7.out
      have hB9 := Aside0.mk (blk_below HG2.out hB7.out)
      have hs : w17.cell? ⟨R, 4, none⟩ = some (.slice A Ls.length c) := (blk_cell hB9.out 4).trans rfl
      have hfs := blk_frozen hB9.out 4
      refine skip_ (w1 := ?_) (by rfl) rfl ?_ ?_
      rotate_left
      · go_simp
        rfl
      refine hK.out _ _ ?_
      clear hK K
      refine done_ (by kernel_rfl) ?_
      have c5 : w17.cell? ⟨R, 5, none⟩ = some (.int .i64 c1) := (blk_cell hB9.out 5).trans rfl
      go_wp2
      go_ret2
      exact ⟨rfl, grant_end HM2.out hBw.out hB7.out hV7.out (by simp) (by simp)⟩
  · refine event_step (v := .slice (some ⟨W2.heap.size, 0, none⟩) 1 1) (w1 := W2.alloc (.cells #[.int .i64 c1, .int .i64 x, .int .u64 un] 85)) (by rfl) (by go_simp) ?_
    have hB8 := Aside0.mk (hB0.out.trans (below_lower (below_alloc (Below.refl W2.heap.size W2) (.cells #[.int .i64 c1, .int .i64 x, .int .u64 un] 85)) hB0.out.size))
    have hX8 := Aside0.mk (g_one W2 c1 x un hB0.out.size)
    refine hK.out _ _ (kp.out _ hB8.out) (fun hHeld => ?_)
    clear hK K
    refine norm_ (a' := ?_) ?_ ?_
    rotate_left
    · show Act.put _ (some 33) _ = _
      simp only [Act.put, List.setIfInBounds_toArray, List.set_cons_zero, List.set_cons_succ]
      rfl
    generalize hq8 : W2.alloc (.cells #[.int .i64 c1, .int .i64 x, .int .u64 un] 85) = w18 at hB8 hHeld hX8 ⊢
    clear hq8
    refine one_ (i := 1) (N := some 20) #[true, true, true, true, true, true, false, true, true, true, true, true, true, true, true, false, false, false, false] rfl rfl (by kernel_rfl) (by decide) (fun K hK => ?_)
    refine event_step (v := .slice (some ⟨w18.heap.size, 0, none⟩) 0 0) (w1 := w18.alloc (.cells #[] 85)) (by rfl) (by go_simp) ?_
    have hB9 := Aside0.mk (hB8.out.trans (below_lower (below_alloc (Below.refl w18.heap.size w18) (.cells #[] 85)) hB8.out.size))
    have hV9 := Aside0.mk (Kd.R_lower (g_lit0 w18) hB8.out.size)
    have hN9 : Aside0 (w18.heap.size ≠ W2.heap.size) := ⟨by have := own_lt (CatG.own_of_R hX8.out) _ rfl; simp only at this; omega⟩
    have hX9 := Aside0.mk (Kd.R_below hX8.out (below_alloc (Below.refl _ _) (.cells #[] 85)))
    refine hK.out _ _ (kp.out _ hB9.out) (fun hHeld => ?_)
    clear hK K
    refine norm_ (a' := ?_) ?_ ?_
    rotate_left
    · show Act.put _ (some 20) _ = _
      simp only [Act.put, List.setIfInBounds_toArray, List.set_cons_zero, List.set_cons_succ]
      rfl
    generalize hq9 : w18.alloc (.cells #[] 85) = w19 at hB9 hHeld hV9 hX9 ⊢
    clear hq9
    refine one_ (i := 6) (N := some 25) #[true, true, true, true, true, true, true, true, true, true, true, true, true, true, true, false, false, false, false] rfl rfl (by kernel_rfl) (by decide) (fun K hK => ?_)
    refine g_step2 (K := _) W2.heap.size (by rfl) (.tmp 20) (.tmp 24) (by rfl) (.slice (some ⟨w18.heap.size, 0, none⟩) 0 0) [] A Ls.length c Ls (by rfl) (by rfl) hV9.out (Kd.C_below HC2.out hB9.out) hB9.out.size (by simp only [List.length_nil]; have := HLL.out; omega) ?_
    intro v10 w20 hv10 hb10 hf10
    have hB10 := Aside0.mk (hB9.out.trans hb10)
    have hV10 := Aside0.mk hv10
    have hX10 := Aside0.mk (Kd.R_kept hX9.out (S := fun k => Value.ownBlock (.slice (some ⟨w18.heap.size, 0, none⟩) 0 0) = some k) ⟨hf10.size, fun i hi hn => hf10.blk i hi hn⟩ (fun k hk e => hN9.out (Option.some.inj (e.trans (congrArg some hk)))))
    refine hK.out _ _ (kp.out _ hB10.out) (fun hHeld => ?_)
    clear hK K
    refine norm_ (a' := ?_) ?_ ?_
    rotate_left
    · show Act.put _ (some 25) _ = _
      simp only [Act.put, List.setIfInBounds_toArray, List.set_cons_zero, List.set_cons_succ]
      rfl
    clear hv10 hb10 hf10
    refine one_ (i := 15) (N := some 34) #[true, true, true, true, true, true, true, true, true, true, true, true, true, true, true, true, false, false, false] rfl rfl (by kernel_rfl) (by decide) (fun K hK => ?_)
    refine g_step2 (K := _) W2.heap.size (by rfl) (.tmp 25) (.tmp 33) (by rfl) v10 ([] ++ Ls) (some ⟨W2.heap.size, 0, none⟩) 1 1 [(⟨c1, x, un⟩ : Gr)] (by rfl) (by rfl) hV10.out (g_reads1 hX10.out) hB10.out.size (by rw [List.nil_append]; have := HLL.out; omega) ?_
    intro v11 w21 hv11 hb11 hf11
    have hB11 := Aside0.mk (hB10.out.trans hb11)
    have hV11 := Aside0.mk hv11
    refine hK.out _ _ (kp.out _ hB11.out) (fun hHeld => ?_)
    clear hK K
    refine norm_ (a' := ?_) ?_ ?_
    rotate_left
    · show Act.put _ (some 34) _ = _
      simp only [Act.put, List.setIfInBounds_toArray, List.set_cons_zero, List.set_cons_succ]
      rfl
    clear hv11 hb11 hf11
    refine pure_ (i := 16) (N := some 35) (v := ?_) (a' := ?_) #[true, true, true, true, true, true, true, true, true, true, true, true, true, true, true, true, true, false, false] rfl rfl (by kernel_rfl) (fun _ _ _ h => h) (Or.inl ⟨by rfl, ?_⟩) ?_ ?_
    rotate_left
    · intro w'
      go_simp
      with_reducible rfl
    rotate_left
    · simp only [Act.put, List.setIfInBounds_toArray, List.set_cons_zero, List.set_cons_succ]
      rfl
    refine pure_ (i := 17) (N := some 36) (v := ?_) (a' := ?_) #[true, true, true, true, true, true, true, true, true, true, true, true, true, true, true, true, true, true, false] rfl rfl (by kernel_rfl) (fun _ _ _ h => h) (Or.inl ⟨by rfl, ?_⟩) ?_ ?_
    rotate_left
    · intro w'
      go_simp
      with_reducible rfl
    rotate_left
    · simp only [Act.put, List.setIfInBounds_toArray, List.set_cons_zero, List.set_cons_succ]
      rfl
    refine last_ (i := 18) (N := none) #[true, true, true, true, true, true, true, true, true, true, true, true, true, true, true, true, true, true, true] rfl rfl (by kernel_rfl) (by decide) (fun K hK => ?_)
    obtain ⟨A5, c5, rfl⟩ := Kd.R_slice hV11.out
    have hB9 := Aside0.mk (blk_below HG2.out hB11.out)
    have hs : w21.cell? ⟨R, 4, none⟩ = some (.slice A Ls.length c) := (blk_cell hB9.out 4).trans rfl
    have hfs := blk_frozen hB9.out 4
    refine skip_ (w1 := ?_) (by rfl) rfl ?_ ?_
    rotate_left
    · go_simp
      rfl
    refine hK.out _ _ ?_
    clear hK K
    refine done_ (by kernel_rfl) ?_
    have c5 : w21.cell? ⟨R, 5, none⟩ = some (.int .i64 c1) := (blk_cell hB9.out 5).trans rfl
    go_wp2
    go_ret2
    exact ⟨rfl, grant_end HM2.out hBw.out hB11.out hV11.out (by simp) (by simp)⟩
end
end Go.Proofs.Ytfkebbkfmchnaaa.Bk

set_option linter.unusedVariables false
namespace Go.Proofs.Ytfkebbkfmchnaaa.Bk
open Go.RowKit Go.Proofs.Ytfkebbkfmchnaaa.PBase Go.Proofs.Ytfkebbkfmchnaaa.Heap Go.Proofs.Ytfkebbkfmchnaaa.Ln Go.Proofs.Ytfkebbkfmchnaaa.Lst Go.Proofs.YtfkebbkfmchnaaaW.PrintWords Go.Proofs.YtfkebbkfmchnaaaW.PrintLast Go.Proofs.YtfkebbkfmchnaaaW.PrintMore
section
variable {N : Nat} {w : World} {R : Nat} {vq vl vj : Value} {ag rm ct last tr : Int} {LQ : List S77} {Ls : List Gr} {Js : List Jb}
theorem rlease_ret {Q : Ending → World → Prop} {tmps : Array Value} {W : World} {n j t u : Int} {b : Int} {g : Nat} (hg : tmps.getD 4 undef = ptr g) (he : tmps.getD 5 undef = .int .i64 b) (hb : W.heap[g]? = some (.cells #[.int .i64 n, .int .i64 j, .int .i64 0, .int .i64 0, .int .i64 t, .int .u64 u] 33 (0, 0))) (hQ : Q (.returned (.tuple #[lv n j t u, .int .i64 b])) W) : bodyPost Try.prog Try.f48 Q Exit.ret { tmps := tmps, defers := [] } W :=
  bodyPost_ret (v := .tuple #[lv n j t u, .int .i64 b]) (by rw [← he]; exact results_ct (fn := Try.f48) rfl tmps W g 33 _ (0, 0) _ hg hb Try.underlying33 rfl (by kernel_rfl)) rfl hQ
set_option maxHeartbeats 4000000 in
set_option maxRecDepth 100000 in
theorem rlease_no (h : RB N w R vq vl vj ag rm ct last tr LQ Ls Js) (n : Int) (hl : Ls.length ≤ 100000) (hg : lk gno Ls n = none) : Calls Try.prog 48 #[ptr R, .int .i64 n] w fun e w' => e = .returned (.tuple #[lv 0 0 0 0, .int .i64 13]) ∧ Below w.heap.size w w' := by
  have hb1 : Below w.heap.size w (w.alloc zl) := below_alloc (Below.refl _ _) _
  have hlk := rlook12 (h.step hb1) n (by omega) ⟨0, 0, 0⟩ (by rw [hg]; rfl) false (by rw [hg]; rfl)
  have HX := Aside0.mk (blk_new w zl)
  have hb1 := Aside0.mk hb1
  clear h hg
  go_enter Try.func48, Try.ntmps48
  go_upto_region 2 with (go_at_call 65; refine hlk.mono ?_; clear hlk; rintro e w1 ⟨rfl, hbz⟩)
  generalize hw2 : w1.alloc (.cells #[.int .i64 0, .int .i64 0, .int .u64 0, .bool false] 104) = w2
  have hb2 : Below w1.heap.size w1 w2 := by rw [← hw2]; exact below_alloc (Below.refl _ _) _
  have hy2 : w2.heap[w1.heap.size]? = some (.cells #[.int .i64 0, .int .i64 0, .int .u64 0, .bool false] 104 (0, 0)) := by rw [← hw2]; exact blk_new _ _
  have hx2 := blk_below (blk_below HX.out hbz) hb2
  have y3 := (blk_cell hy2 3).trans rfl
  have s0 := (blk_cell hx2 0).trans rfl
  have s1 := (blk_cell hx2 1).trans rfl
  have s2 := (blk_cell hx2 2).trans rfl
  have s3 := (blk_cell hx2 3).trans rfl
  have s4 := (blk_cell hx2 4).trans rfl
  have s5 := (blk_cell hx2 5).trans rfl
  have f0 := blk_frozen hx2 0
  have f1 := blk_frozen hx2 1
  have f2 := blk_frozen hx2 2
  have f3 := blk_frozen hx2 3
  have f4 := blk_frozen hx2 4
  have f5 := blk_frozen hx2 5
  have hx2 := Aside0.mk hx2
  have hbb := Aside0.mk (below_step (below_step hb1.out hbz) hb2)
  clear hw2 hbz hb2 hy2
  go_wp2
  exact rlease_ret (g := w.heap.size) rfl rfl (blk_put (blk_put (blk_put (blk_put (blk_put (blk_put hx2.out 0 _ rfl) 1 _ rfl) 2 _ rfl) 3 _ rfl) 4 _ rfl) 5 _ rfl) ⟨rfl, below_set (below_set (below_set (below_set (below_set (below_set hbb.out (Nat.le_refl _)) (Nat.le_refl _)) (Nat.le_refl _)) (Nat.le_refl _)) (Nat.le_refl _)) (Nat.le_refl _)⟩
/-- Behind a store. -/
theorem gate_st {W : World} {p q : Addr} {v : Value} {x : Option Value} {P : Prop} (h : (W.setCell p v).cell? q = x ∧ P) : (W.setCell p v).cell? q = x ∧ P := h
/-- Behind a draw. -/
theorem gate_dr {W : World} {q : Addr} {x : Option Value} {P : Prop} (h : W.drew.cell? q = x ∧ P) : W.drew.cell? q = x ∧ P := h
theorem below_drew_blk {W : World} {g : Nat} {o : Obj} (h : W.heap[g]? = some o) : W.drew.heap[g]? = some o := h
set_option maxHeartbeats 8000000 in
set_option maxRecDepth 100000 in
theorem rlease_yes (h : RB N w R vq vl vj ag rm ct last tr LQ Ls Js) (n : Int) (hl : Ls.length ≤ 100000) (hjl : Js.length ≤ 100000) (g : Gr) (hg : lk gno Ls n = some g) (j : Jb) (hj : lk jid Js g.j = some j) (us : Int) (hus : j.us = us) : Calls Try.prog 48 #[ptr R, .int .i64 n] w fun e w' => e = .returned (.tuple #[lv n g.j us g.u, .int .i64 0]) ∧ Below w.heap.size w w' := by
  have hb1 : Below w.heap.size w (w.alloc zl) := below_alloc (Below.refl _ _) _
  have hlk := rlook12 (h.step hb1) n (by omega) g (by rw [hg]; rfl) true (by rw [hg]; rfl)
  obtain ⟨k, hk, hp, hkj⟩ := pos_some hj
  have HX := Aside0.mk (blk_new w zl)
  have hb1 := Aside0.mk hb1
  have H := Aside0.mk h
  have hRl := blk_lt h.blk
  obtain ⟨gb, cap, e, hgR, hgl, hfz, e1, e2, e3⟩ := h.elem k hk
  subst e
  have HE := Aside0.mk hgl
  have hu3 : Js[k].us = us := by rw [hkj]; exact hus
  have HP := Aside0.mk (And.intro hp hu3)
  clear h hg hj hus hp hkj hfz e1 e2 e3 hgl hgR hu3
  go_enter Try.func48, Try.ntmps48
  go_upto_region 4 with (go_at_call 65; refine hlk.mono ?_; clear hlk; rintro e w1 ⟨rfl, hbz⟩)
  generalize hw2 : w1.alloc (.cells #[.int .i64 g.n, .int .i64 g.j, .int .u64 g.u, .bool true] 104) = w2
  have hb2 : Below w1.heap.size w1 w2 := by rw [← hw2]; exact below_alloc (Below.refl _ _) _
  have hy2 : w2.heap[w1.heap.size]? = some (.cells #[.int .i64 g.n, .int .i64 g.j, .int .u64 g.u, .bool true] 104 (0, 0)) := by rw [← hw2]; exact blk_new _ _
  have hx2 := blk_below (blk_below HX.out hbz) hb2
  have hbb := below_step (below_step hb1.out hbz) hb2
  have H3 := H.out.step hbb
  have hW1 : w.heap.size < w1.heap.size := Nat.lt_of_lt_of_le (blk_lt HX.out) hbz.size
  have hW2 := blk_lt hy2
  obtain ⟨gb', cap', e, hgR, hgl, hfz, e1, e2, e3⟩ := H3.elem k hk
  obtain ⟨rfl, rfl⟩ : gb' = gb ∧ cap' = cap := by cases e; exact ⟨rfl, rfl⟩
  rw [HP.out.2] at e3
  have hgx : gb' ≠ w.heap.size := fun e => by have := HE.out; omega
  have hgy : gb' ≠ w1.heap.size := fun e => by have := HE.out; omega
  have hkn : (k : Int) < (Js.length : Int) := by omega
  have hk0 : (0 : Int) ≤ (k : Int) := by omega
  have hjl2 : (Js.length : Int) ≤ 1000000 := by omega
  have hfi := rfind12 (H3.step (below_drew1 (Below.refl _ _))) g.j (by omega) k HP.out.1
  have c7 : w2.cell? ⟨R, 7, none⟩ = some (.slice (some ⟨gb', 0, none⟩) Js.length cap') := (blk_cell H3.blk 7).trans rfl
  have y1 : w2.cell? ⟨w1.heap.size, 1, none⟩ = some (.int .i64 g.j) := (blk_cell hy2 1).trans rfl
  have y2 : w2.cell? ⟨w1.heap.size, 2, none⟩ = some (.int .u64 g.u) := (blk_cell hy2 2).trans rfl
  have kp : Aside0 (∀ w', Fr (fun k => k = w.heap.size) w2 w' → w'.cell? ⟨R, 7, none⟩ = some (.slice (some ⟨gb', 0, none⟩) Js.length cap') ∧ w'.cell? ⟨w1.heap.size, 1, none⟩ = some (.int .i64 g.j) ∧ w'.cell? ⟨w1.heap.size, 2, none⟩ = some (.int .u64 g.u) ∧ w'.cell? ⟨gb', k * 4 + 3, none⟩ = some (.int .i64 us)) := ⟨fun w' hf => ⟨hf.cell c7 (by show ¬ R = w.heap.size; omega), hf.cell y1 (by show ¬ w1.heap.size = w.heap.size; omega), hf.cell y2 (by show ¬ w1.heap.size = w.heap.size; omega), hf.cell e3 hgx⟩⟩
  have hx2 := Aside0.mk hx2
  have hbb := Aside0.mk hbb
  clear hw2 hbz hb2 hy2 H3 hfz e1 e2 e3 c7 y1 y2 hgR hgl hgx hgy H
  go_region_held3 (fun w' => w'.cell? ⟨R, 7, none⟩ = some (.slice (some ⟨gb', 0, none⟩) Js.length cap') ∧ w'.cell? ⟨w1.heap.size, 1, none⟩ = some (.int .i64 g.j) ∧ w'.cell? ⟨w1.heap.size, 2, none⟩ = some (.int .u64 g.u) ∧ w'.cell? ⟨gb', k * 4 + 3, none⟩ = some (.int .i64 us)) (first | (with_reducible refine gate_st ?_; exact kp.out _ (fr_trans (fr_trans (fr_drew _) (Fr.of_below hb4)) (fr_set6 _ _ _ _ _ _ _ _))) | (with_reducible refine gate_dr ?_; exact kp.out _ (fr_drew _)) | exact kp.out _ (fr_trans (fr_drew _) (Fr.of_below hb4))) (first
    | (go_at_call 30; refine hfi.mono ?_; clear hfi; rintro e w4 ⟨rfl, hb4⟩; have hx4 := blk_below (below_drew_blk hx2.out) hb4; have s0 := (blk_cell hx4 0).trans rfl; have s1 := (blk_cell hx4 1).trans rfl; have s2 := (blk_cell hx4 2).trans rfl; have s3 := (blk_cell hx4 3).trans rfl; have s4 := (blk_cell hx4 4).trans rfl; have s5 := (blk_cell hx4 5).trans rfl; have f0 := blk_frozen hx4 0; have f1 := blk_frozen hx4 1; have f2 := blk_frozen hx4 2; have f3 := blk_frozen hx4 3; have f4 := blk_frozen hx4 4; have f5 := blk_frozen hx4 5; have hx4 := Aside0.mk hx4))
  have hb5 := Aside0.mk (below_step (below_drew1 hbb.out) hb4)
  clear hb4 s0 s1 s2 s3 s4 s5 f0 f1 f2 f3 f4 f5 kp
  go_wp2
  exact rlease_ret (g := w.heap.size) rfl rfl (blk_put (blk_put (blk_put (blk_put (blk_put (blk_put hx4.out 0 _ rfl) 1 _ rfl) 2 _ rfl) 3 _ rfl) 4 _ rfl) 5 _ rfl) ⟨rfl, below_set (below_set (below_set (below_set (below_set (below_set hb5.out (Nat.le_refl _)) (Nat.le_refl _)) (Nat.le_refl _)) (Nat.le_refl _)) (Nat.le_refl _)) (Nat.le_refl _)⟩
end
end Go.Proofs.Ytfkebbkfmchnaaa.Bk

set_option linter.unusedVariables false
namespace Go.Proofs.Ytfkebbkfmchnaaa.Bk
open Go.RowKit Go.Proofs.Ytfkebbkfmchnaaa.PBase Go.Proofs.Ytfkebbkfmchnaaa.Heap Go.Proofs.Ytfkebbkfmchnaaa.Ln Go.Proofs.Ytfkebbkfmchnaaa.Lst Go.Proofs.Ytfkebbkfmchnaaa.PStp Go.Proofs.YtfkebbkfmchnaaaW.PrintWords Go.Proofs.YtfkebbkfmchnaaaW.PrintLast Go.Proofs.YtfkebbkfmchnaaaW.PrintMore
/-! ### ref11.Step, ref12.May -/
theorem rstep_run {n s u x s2 u2 : Int} (h : remontoirref11_Step.f 9 n s u x = some (s2, u2, true)) (w : World) : Calls Try.prog 46 #[.int .i64 n, .agg #[.int .i64 s, .int .i64 u], .int .i64 x] w fun e w' => e = .returned (.agg #[.int .i64 s2, .int .i64 u2, .bool true]) ∧ Below w.heap.size w w' := remontoirref11_Step.calls 9 n s u x s2 u2 true w h
theorem rgood (k : Nat) (n s u : Int) (h : G n s u) : remontoirref11_Good.f (k + 2) n s u = some true := by
  unfold remontoirref11_Good.f remontoirref11_Good.j0 remontoirref11_Good.j1
  unfold G at h
  have hw : wrap64 (n + 1) = n + 1 := w64 (by omega) (by omega)
  simp only [hw, decide_eq_true_eq, beq_iff_eq]
  repeat' split
  all_goals (first | omega | (congr 1; first | (rw [decide_eq_true_eq]; omega) | (rw [beq_iff_eq]; omega)) | skip)
theorem rstep_fetch {n u : Int} (h : 0 ≤ n ∧ n ≤ 9) (h2 : 0 ≤ u ∧ u ≤ n) : remontoirref11_Step.f 9 n 1 u 1 = some (2, u + 1, true) := by
  unfold remontoirref11_Step.f
  rw [rgood 7 n 1 u (by unfold G; omega)]
  have hw : wrap64 (u + 1) = u + 1 := w64 (by omega) (by omega)
  simp [remontoirref11_Step.j0, hw]
theorem rstep_fail {n u : Int} (h : 0 ≤ n ∧ n ≤ 9) (h2 : 1 ≤ u ∧ u ≤ n + 1) : remontoirref11_Step.f 9 n 2 u 3 = some (if n < u then 5 else 3, u, true) := by
  unfold remontoirref11_Step.f
  rw [rgood 7 n 2 u (by unfold G; omega)]
  by_cases c : n < u
  · have c2 : ¬ u ≤ n := by omega
    simp [remontoirref11_Step.j0, remontoirref11_Step.j1, remontoirref11_Step.j2, remontoirref11_Step.j3, c, c2]
  · have c2 : u ≤ n := by omega
    simp [remontoirref11_Step.j0, remontoirref11_Step.j1, remontoirref11_Step.j2, c, c2]
theorem rstep_rest {n u : Int} (h : 0 ≤ n ∧ n ≤ 9) (h2 : 1 ≤ u ∧ u ≤ n) : remontoirref11_Step.f 9 n 3 u 4 = some (1, u, true) := by
  unfold remontoirref11_Step.f
  rw [rgood 7 n 3 u (by unfold G; omega)]
  simp [remontoirref11_Step.j0, remontoirref11_Step.j1, remontoirref11_Step.j2, remontoirref11_Step.j3]
def mayB (ag rm tr : Int) : Bool := decide ((1 ≤ ag ∧ ag ≤ 1000) ∧ (0 ≤ rm ∧ rm ≤ 1000) ∧ 0 ≤ tr ∧ tr ≤ 9)
theorem rmay_run (ag rm tr : Int) (r : Bool) (h : mayB ag rm tr = r) (w : World) : Calls Try.prog 21 #[.int .i64 ag, .int .i64 rm, .int .i64 tr] w fun e w' => e = .returned (.bool r) ∧ Below w.heap.size w w' := by
  refine (remontoirref12_May.calls ag rm tr r w ?_).mono (fun e w' h => ⟨h.1, h.2.below⟩)
  subst h
  unfold remontoirref12_May.f remontoirref09_May.f mayB
  by_cases c1 : 1 ≤ ag <;> by_cases c2 : ag ≤ 1000 <;> by_cases c3 : 0 ≤ rm <;> by_cases c4 : rm ≤ 1000 <;> by_cases c5 : 0 ≤ tr <;> by_cases c6 : tr ≤ 9 <;> simp [c1, c2, c3, c4, c5, c6]
/-! ### The reference's book beside ours -/
structure RI (N : Nat) (w : World) (R : Nat) (X : Nat → Prop) (b : Book) : Prop where
  ex : ∃ vq vl vj LQ, RB N w R vq vl vj b.ag b.rm b.ct b.ct b.tr LQ b.Ls b.Js ∧ LQ.Perm b.L ∧ Apart vq vl vj ∧ X = own3 R vq vl vj
/-- Where a call leaves the reference's book. -/
def RIGo (N : Nat) (w : World) (R : Nat) (X : Nat → Prop) (w' : World) (b : Book) : Prop := ∃ X', RI N w' R X' b ∧ Mv w X w' X'
section
variable {N : Nat} {w w' : World} {R : Nat} {X : Nat → Prop} {b : Book}
theorem RI.stay (h : RI N w R X b) (hb : Below w.heap.size w w') : RIGo N w R X w' b := by
  obtain ⟨vq, vl, vj, LQ, hR, hp, ha, rfl⟩ := h.ex
  exact ⟨_, ⟨⟨vq, vl, vj, LQ, hR.step hb, hp, ha, rfl⟩⟩, (Mv.refl w _).below hb⟩
theorem radd_arg (cl : Int) (h : ¬ (0 ≤ cl ∧ cl < 8)) (id : Int) (w : World) : Calls Try.prog 23 #[ptr R, .int .i64 id, .int .i64 cl] w fun e w' => e = .returned (.int .i64 1) ∧ Below w.heap.size w w' := by
  by_cases k1 : cl < 0
  · have k1' : decide (cl < 0) = true := decide_eq_true k1
    clear h
    go_enter Try.func23, Try.ntmps23
    go_wp2
    go_ret
    exact ⟨rfl, Below.refl _ _⟩
  · have k2 : 8 ≤ cl := by omega
    have k1' : decide (cl < 0) = false := decide_eq_false k1
    clear h
    go_enter Try.func23, Try.ntmps23
    go_wp2
    go_ret
    exact ⟨rfl, Below.refl _ _⟩
variable {vq vl vj : Value} {ag rm ct last tr : Int} {LQ : List S77} {Ls : List Gr} {Js : List Jb}
theorem radd_twice (h : RB N w R vq vl vj ag rm ct last tr LQ Ls Js) (hjl : Js.length ≤ 100000) (id cl : Int) (hc : 0 ≤ cl ∧ cl < 8) (hin : id ∈ Js.map jid) : Calls Try.prog 23 #[ptr R, .int .i64 id, .int .i64 cl] w fun e w' => e = .returned (.int .i64 8) ∧ Below w.heap.size w w' := by
  obtain ⟨j, hj⟩ := Option.isSome_iff_exists.1 (lk_isSome.2 hin)
  obtain ⟨k, hk, hp, hkj⟩ := pos_some hj
  have hfi := rfind12 h id (by omega) k hp
  have k1 : ¬ cl < 0 := by omega
  have k2 : ¬ 8 ≤ cl := by omega
  have k3 : (0 : Int) ≤ (k : Int) := by omega
  clear h hin hj hc hp hkj
  go_enter Try.func23, Try.ntmps23
  go_wp2_with (go_at_call 30; refine hfi.mono ?_; clear hfi; rintro e w4 ⟨rfl, hb4⟩)
  go_ret
  exact ⟨rfl, hb4⟩
theorem radd_full (h : RB N w R vq vl vj ag rm ct last tr LQ Ls Js) (hjl : Js.length ≤ 100000) (id cl : Int) (hc : 0 ≤ cl ∧ cl < 8) (hin : id ∉ Js.map jid) (hf : rm ≤ (Js.length : Int)) : Calls Try.prog 23 #[ptr R, .int .i64 id, .int .i64 cl] w fun e w' => e = .returned (.int .i64 10) ∧ Below w.heap.size w w' := by
  have hfi := rfind12 h id (by omega) (-1) (pos_none (lk_none.2 hin))
  have k1 : ¬ cl < 0 := by omega
  have k2 : ¬ 8 ≤ cl := by omega
  obtain ⟨A, c, rfl, _, _⟩ := Kd.R_reads h.j
  have H := Aside0.mk h
  clear h hin hc
  go_enter Try.func23, Try.ntmps23
  go_upto_region 5 with (go_at_call 30; refine hfi.mono ?_; clear hfi; rintro e w4 ⟨rfl, hb4⟩)
  have H4 := H.out.step hb4
  have c7 : w4.cell? ⟨R, 7, none⟩ = some (.slice A Js.length c) := (blk_cell H4.blk 7).trans rfl
  have c1 : w4.cell? ⟨R, 1, none⟩ = some (.int .i64 rm) := (blk_cell H4.blk 1).trans rfl
  clear H H4
  go_region_held3 (fun w' => w'.cell? ⟨R, 7, none⟩ = some (.slice A Js.length c) ∧ w'.cell? ⟨R, 1, none⟩ = some (.int .i64 rm)) (go_keep) (fail)
  go_wp2
  go_ret
  exact ⟨rfl, below_drew1 hb4⟩
set_option maxHeartbeats 8000000 in
set_option maxRecDepth 100000 in
theorem radd_ok (h : RI N w R X b) (hI : Inv b) (id cl : Int) (hE : addE b id cl = 0) : Calls Try.prog 23 #[ptr R, .int .i64 id, .int .i64 cl] w fun e w' => e = .returned (.int .i64 0) ∧ Aside0 (RIGo N w R X w' (addB b id cl)) := by
  obtain ⟨vq, vl, vj, LQ, hR, hp, ha, rfl⟩ := h.ex
  obtain ⟨hc, hin, hlt⟩ := addE_ok hE
  obtain ⟨p1, p2⟩ := hI.add_put hE
  have hrm := hI.rm
  have hlen := hI.len
  have hfi := rfind12 hR id (by omega) (-1) (pos_none (lk_none.2 hin))
  have k1 : ¬ cl < 0 := by omega
  have k2 : ¬ 8 ≤ cl := by omega
  have k3 : ¬ b.rm ≤ (b.Js.length : Int) := by omega
  have HL : Aside0 (b.Js.length ≤ 1000 ∧ b.L.length ≤ 1000) := ⟨by omega, by omega⟩
  have H := Aside0.mk (And.intro hR ha)
  have HP := Aside0.mk (And.intro p1 (And.intro p2 (And.intro hp hI.st)))
  obtain ⟨A, c, rfl, _, _⟩ := Kd.R_reads hR.j
  clear h hI hin hc p1 p2 hrm hlen hlt hR hp ha hE
  go_enter Try.func23, Try.ntmps23
  go_upto_region 5 with (go_at_call 30; refine hfi.mono ?_; clear hfi; rintro e w4 ⟨rfl, hb4⟩)
  have H4 := H.out.1.step hb4
  have c7 : w4.cell? ⟨R, 7, none⟩ = some (.slice A b.Js.length c) := (blk_cell H4.blk 7).trans rfl
  have c1 : w4.cell? ⟨R, 1, none⟩ = some (.int .i64 b.rm) := (blk_cell H4.blk 1).trans rfl
  clear H4
  go_region_held3 (fun w' => w'.cell? ⟨R, 7, none⟩ = some (.slice A b.Js.length c) ∧ w'.cell? ⟨R, 1, none⟩ = some (.int .i64 b.rm)) (go_keep) (fail)
  have hb5 := below_drew1 hb4
  clear c7 c1 hb4
  go_upto_region 7 with (fail)
  generalize w4.drew = w5 at hb5 ⊢
  have H5 := H.out.1.step hb5
  have c7 : w5.cell? ⟨R, 7, none⟩ = some (.slice A b.Js.length c) := (blk_cell H5.blk 7).trans rfl
  have hbA : Below w5.heap.size w5 (w5.alloc (.cells #[.int .i64 id, .int .i64 cl, .int .i64 1, .int .i64 0] 98)) := below_alloc (Below.refl _ _) _
  have H6 := H5.step hbA
  obtain ⟨v1, w7, hrun, k1, k2', k3', k4⟩ := j_rows3 94 (some ⟨w5.heap.size, 0, none⟩) 1 1 [⟨id, cl, 1, 0⟩] H6.j (CatJ.C_one ⟨id, cl, 1, 0⟩) (by have := H5.nle; have := hbA.size; omega) (by have := HL.out; omega)
  obtain ⟨H8, ha8, hm8⟩ := H.out.1.addJ H.out.2 (below_step hb5 hbA) k1 k3' k4
  have hg7 := (k3'.blk R (blk_lt H6.blk) (fun e => (H6.j.1 R e).2 rfl)).trans H6.blk
  have f7 := blk_frozen hg7 7
  have s7 : w7.cell? ⟨R, 7, none⟩ = some (.slice A b.Js.length c) := (blk_cell hg7 7).trans rfl
  obtain ⟨A4, c4, e4, _, _⟩ := Kd.R_reads k1
  subst e4
  generalize (b.Js ++ [(⟨id, cl, 1, 0⟩ : Jb)]).length = n9 at hrun H8 ha8 hm8
  have H8 := Aside0.mk (And.intro H8 (And.intro ha8 hm8))
  clear H5 H6 hbA hb5 k1 k2' k3' k4 ha8 hm8 hg7 H
  have hpt : Calls Try.prog 44 #[.pointer (some ⟨R, 0, none⟩), .int .i64 id, .int .i64 cl] _ _ := rput_some H8.out.1.q HP.out.2.2.1 HP.out.2.2.2 HL.out.2 id cl
  rw [HP.out.1, HP.out.2.1] at hpt
  go_wp2_with (first
    | (at_builtin; refine append_g _ (by rfl) (.tmp 35) (.tmp 40) 94 94 (by rfl) (.slice A b.Js.length c) _ (by rfl) (by rfl) _ w7 hrun ?_; clear hrun)
    | (go_at_call 44; refine hpt.mono ?_; clear hpt; rintro e w9 ⟨rfl, hz⟩))
  go_ret
  obtain ⟨LR', hp', _, hg⟩ := hz.out
  obtain ⟨vq', h9, ha9, hm9⟩ := H8.out.1.goQ H8.out.2.1 hg
  exact ⟨rfl, ⟨⟨_, ⟨⟨vq', vl, _, LR', h9, hp', ha9, rfl⟩⟩, H8.out.2.2.trans hm9⟩⟩⟩
theorem radd (h : RI N w R X b) (hI : Inv b) (id cl : Int) (e1 : Int) (hE : addE b id cl = e1) (b2 : Book) (hb2 : addT b id cl = b2) : Calls Try.prog 23 #[ptr R, .int .i64 id, .int .i64 cl] w fun e w' => e = .returned (.int .i64 e1) ∧ Aside0 (RIGo N w R X w' b2) := by
  subst hb2
  unfold addT
  have hrm := hI.rm
  have hle := hI.le
  obtain ⟨vq, vl, vj, LQ, hR, hp, ha, _⟩ := h.ex
  rcases addE_cases b id cl with ⟨h0, h1⟩ | ⟨h0, h1, h2⟩ | ⟨h0, h1, h2, h3⟩ | h0
  · obtain rfl := h0.symm.trans hE
    rw [h0, if_neg (by decide)]
    refine (radd_arg cl h1 id w).mono ?_
    rintro e w' ⟨rfl, hb⟩
    exact ⟨rfl, ⟨h.stay hb⟩⟩
  · obtain rfl := h0.symm.trans hE
    rw [h0, if_neg (by decide)]
    refine (radd_twice hR (by omega) id cl h1 h2).mono ?_
    rintro e w' ⟨rfl, hb⟩
    exact ⟨rfl, ⟨h.stay hb⟩⟩
  · obtain rfl := h0.symm.trans hE
    rw [h0, if_neg (by decide)]
    refine (radd_full hR (by omega) id cl h1 h2 h3).mono ?_
    rintro e w' ⟨rfl, hb⟩
    exact ⟨rfl, ⟨h.stay hb⟩⟩
  · obtain rfl := h0.symm.trans hE
    rw [if_pos h0]
    exact radd_ok h hI id cl h0
/-! ### Answer -/
set_option maxHeartbeats 4000000 in
set_option maxRecDepth 100000 in
theorem ranswer_no (h : RI N w R X b) (hI : Inv b) (hct : b.ct ≤ 10000) (n : Int) (hg : lk gno b.Ls n = none) : Calls Try.prog 25 #[ptr R, .int .i64 n] w fun e w' => e = .returned (.tuple #[.int .i64 0, .int .i64 13]) ∧ Aside0 (RIGo N w R X w' b) := by
  obtain ⟨vq, vl, vj, LQ, hR, hp, ha, rfl⟩ := h.ex
  have hll := hI.llen
  have hrm := hI.rm
  have hle := hI.le
  have hct0 := hI.ct
  have hdr := rtdrop hR n (by omega) ⟨0, 0, 0⟩ (by rw [hg]; rfl) false (by rw [hg]; rfl)
  rw [rm_no (lk_none.1 hg)] at hdr
  have hdr := Aside0.mk hdr
  have H := Aside0.mk (And.intro hR (And.intro hp ha))
  clear h hI hR hp ha hll hrm hle hct0 hct
  go_enter Try.func25, Try.ntmps25
  go_upto_region 2 with (go_at_call 49; refine hdr.out.mono ?_; rintro e w1 ⟨rfl, hz⟩)
  obtain ⟨vl', h1, ha1, hm1⟩ := H.out.1.goL H.out.2.2 hz.out
  have hb2 : Below w1.heap.size w1 (w1.alloc (.cells #[.int .i64 0, .int .i64 0, .int .u64 0, .bool false] 104)) := below_alloc (Below.refl _ _) _
  have hE := Aside0.mk (⟨_, ⟨⟨vq, vl', vj, LQ, h1.step hb2, H.out.2.1, ha1, rfl⟩⟩, hm1.below hb2⟩ : RIGo N w R _ _ b)
  have hy2 := blk_new w1 (.cells #[.int .i64 0, .int .i64 0, .int .u64 0, .bool false] 104)
  have y3 := (blk_cell hy2 3).trans rfl
  clear h1 ha1 hm1 hb2 hy2
  go_wp2
  go_ret2
  exact ⟨rfl, hE⟩
set_option maxHeartbeats 4000000 in
set_option maxRecDepth 100000 in
theorem ranswer_yes (h : RI N w R X b) (hI : Inv b) (hct : b.ct ≤ 10000) (n : Int) (g : Gr) (hg : lk gno b.Ls n = some g) : Calls Try.prog 25 #[ptr R, .int .i64 n] w fun e w' => e = .returned (.tuple #[.int .i64 g.j, .int .i64 0]) ∧ Aside0 (RIGo N w R X w' (goneB b g.j)) := by
  obtain ⟨vq, vl, vj, LQ, hR, hp, ha, rfl⟩ := h.ex
  have hll := hI.llen
  have hrm := hI.rm
  have hle := hI.le
  have hct0 := hI.ct
  have hnw : g.j ∉ ids b.L := by
    obtain ⟨j, hj, hji, hjs, _⟩ := hI.job (lk_mem hg).1
    rw [← hji]
    exact hI.not_waits hj (by omega)
  have hrme : Lst.rm gno b.Ls n = Lst.rm gjo b.Ls g.j := by
    rw [← (lk_mem hg).2]
    exact rm_eq hI.gn hI.gj (lk_mem hg).1
  have hdr := rtdrop hR n (by omega) g (by rw [hg]; rfl) true (by rw [hg]; rfl)
  rw [hrme] at hdr
  have hdr := Aside0.mk hdr
  have H := Aside0.mk (And.intro hR (And.intro hp ha))
  have HN := Aside0.mk (And.intro hnw (show b.Js.length ≤ 100000 by omega))
  clear h hI hR hp ha hll hrm hle hct0 hct hrme hnw
  go_enter Try.func25, Try.ntmps25
  go_upto_region 4 with (go_at_call 49; refine hdr.out.mono ?_; rintro e w1 ⟨rfl, hz⟩)
  obtain ⟨vl', h1, ha1, hm1⟩ := H.out.1.goL H.out.2.2 hz.out
  generalize hw2 : w1.alloc (.cells #[.int .i64 g.n, .int .i64 g.j, .int .u64 g.u, .bool true] 104) = w2
  have hb2 : Below w1.heap.size w1 w2 := by rw [← hw2]; exact below_alloc (Below.refl _ _) _
  have hy2 : w2.heap[w1.heap.size]? = some (.cells #[.int .i64 g.n, .int .i64 g.j, .int .u64 g.u, .bool true] 104 (0, 0)) := by rw [← hw2]; exact blk_new _ _
  have h2 := h1.step hb2
  have hm2 := hm1.below hb2
  have y1 := (blk_cell hy2 1).trans rfl
  have hgo := gone12 h2 g.j HN.out.2
  have hlt1 : ∀ k, own3 R vq vl' vj k → k < w1.heap.size := fun k hk => (h1.lt3 k hk).2
  have H2 := Aside0.mk (And.intro h2 (And.intro ha1 (And.intro hm2 (And.intro hy2 hlt1))))
  clear hw2 h1 ha1 hm1 hb2 hy2 h2 hm2 hlt1
  go_upto_region 5 with (go_at_call 50; refine hgo.mono ?_; clear hgo; rintro e w3 ⟨rfl, hz3⟩)
  obtain ⟨h2, ha2, hm2, hy2, hlt1⟩ := H2.out
  obtain ⟨vj', h3, ha3, hm3⟩ := h2.goJ ha2 hz3.out
  have hy3 := (hm3.fr.blk w1.heap.size (blk_lt hy2) (fun e => by have := hlt1 _ e; omega)).trans hy2
  have y1 := (blk_cell hy3 1).trans rfl
  have hE := Aside0.mk (⟨_, ⟨⟨vq, vl', vj', LQ, h3, by rw [show (goneB b g.j).L = b.L from drop_no HN.out.1]; exact H.out.2.1, ha3, rfl⟩⟩, hm2.trans hm3⟩ : RIGo N w R _ w3 (goneB b g.j))
  clear h2 ha2 hm2 hy2 hlt1 h3 ha3 hm3 hy3
  go_wp2
  go_ret2
  exact ⟨rfl, hE⟩
end
end Go.Proofs.Ytfkebbkfmchnaaa.Bk
