/- ring.order, plain; slices.BinarySearchFunc by it as a call. Conditions: the list reads. -/
import Derived.Test.YtedolmjealgeoaaDoorGa
import Derived.Test.YtedolmjealgeoaaDoorPBasex2
import Derived.Test.YtedolmjealgeoaaDoorPBasex4
import Derived.Deep.RegionHeld3
import Derived.Lib.SlBy
namespace Go.Proofs.YtedolmjealgeoaaDoor.Rg
open Go.RowKit Go.Maps Go.Proofs.YtedolmjealgeoaaDoor.PBase Go.Proofs.YtedolmjealgeoaaDoor.Cat Go.Proofs.YtedolmjealgeoaaDoorW.PrintWords Go.Proofs.YtedolmjealgeoaaDoorW.PrintLast Go.Proofs.YtedolmjealgeoaaDoorW.PrintMore
set_option linter.unusedVariables false
/-- Is the first one ahead? -/
def lt (a b : S31) : Bool := decide (a.f1 < b.f1) || (a.f1 == b.f1 && decide (a.f0 < b.f0))
theorem or_of (c d : Int) (hc : c = -1 ∨ c = 0 ∨ c = 1) (hd : d = -1 ∨ d = 0 ∨ d = 1) : cmp_Or_int.f 4 [c, d] = some (if c = 0 then d else c) := by
  rcases hc with rfl | rfl | rfl <;> rcases hd with rfl | rfl | rfl <;> decide +kernel
theorem cmpU (a b : Int) : cmp_Compare_uint64.f a b = some (if a < b then -1 else if a > b then 1 else 0) := by
  have h : ∀ x : Int, (x != x) = false := fun x => by simp
  unfold cmp_Compare_uint64.f cmp_isNaN_uint64.f
  rw [h, h, Option.bind_some, Option.bind_some, if_neg (by decide), if_neg (by decide)]
  split
  · rfl
  · split <;> rfl
theorem cmpI (a b : Int) : cmp_Compare_int.f a b = some (if a < b then -1 else if a > b then 1 else 0) := by
  have h : ∀ x : Int, (x != x) = false := fun x => by simp
  unfold cmp_Compare_int.f cmp_isNaN_int.f
  rw [h, h, Option.bind_some, Option.bind_some, if_neg (by decide), if_neg (by decide)]
  split
  · rfl
  · split <;> rfl
/-- What order tells. -/
theorem order_is (a b : S31) : ∃ r, ring_order.f 4 a.f0 a.f1 b.f0 b.f1 = some r ∧ (0 ≤ r ↔ lt a b = false) ∧ (r = -1 ∨ r = 0 ∨ r = 1) := by
  have h3 : ∀ x y : Int, (if x < y then (-1 : Int) else if x > y then 1 else 0) = -1 ∨ (if x < y then (-1 : Int) else if x > y then 1 else 0) = 0 ∨ (if x < y then (-1 : Int) else if x > y then 1 else 0) = 1 := fun x y => by split <;> (try split) <;> simp
  refine ⟨_, by unfold ring_order.f; rw [cmpU, cmpI, Option.bind_some, Option.bind_some, or_of _ _ (h3 _ _) (h3 _ _)]; rfl, ?_, ?_⟩
  · unfold lt
    rw [Bool.or_eq_false_iff, Bool.and_eq_false_iff, decide_eq_false_iff_not, decide_eq_false_iff_not, beq_eq_false_iff_ne]
    split <;> (try split) <;> (try split) <;> omega
  · by_cases h0 : (if a.f1 < b.f1 then (-1 : Int) else if a.f1 > b.f1 then 1 else 0) = 0
    · rw [if_pos h0]; exact h3 _ _
    · rw [if_neg h0]; exact h3 _ _
/-- The search between i and j. -/
def bgo (l : List S31) (d : S31) : Nat → Nat → Nat → Nat
  | 0, i, _ => i
  | n + 1, i, j => if i < j then if lt (rd_T31 l ((i + j) / 2 : Nat)) d = true then bgo l d n ((i + j) / 2 + 1) j else bgo l d n i ((i + j) / 2) else i
set_option maxHeartbeats 4000000 in
set_option maxRecDepth 100000 in
theorem bs_walk (A0 : Option Addr) (c0 : Nat) (l : List S31) (d : S31) (w : World) (hr0 : Kd.C k31 w A0 l.length l) (hlen : l.length ≤ 1000000) :
    Calls Tryd.prog 58 #[.slice A0 l.length c0, .agg #[.int .i64 d.f0, .int .u64 d.f1], .func (.func 59) #[] #[]] w fun e w' => ∃ b : Bool, e = .returned (.tuple #[.int .i64 (bgo l d l.length 0 l.length : Nat), .bool b]) ∧ Below w.heap.size w w' := by
  have HR0 := Aside0.mk hr0
  clear hr0
  go_enter Tryd.func58, Tryd.ntmps58
  go_wp2
  have hbx : Below w.heap.size w (w.alloc (Obj.cells #[Value.int IntKind.i64 d.f0, Value.int IntKind.u64 d.f1] 31)) := below_alloc (Below.refl _ _) _
  have hb0 : (w.alloc (Obj.cells #[Value.int IntKind.i64 d.f0, Value.int IntKind.u64 d.f1] 31)).cell? ⟨w.heap.size, 0, none⟩ = some (.int .i64 d.f0) := by simp
  have hb1 : (w.alloc (Obj.cells #[Value.int IntKind.i64 d.f0, Value.int IntKind.u64 d.f1] 31)).cell? ⟨w.heap.size, 1, none⟩ = some (.int .u64 d.f1) := by simp
  generalize w.alloc (Obj.cells #[Value.int IntKind.i64 d.f0, Value.int IntKind.u64 d.f1] 31) = W0 at hbx hb0 hb1 ⊢
  go_loopg [9, 10] l.length (fun gg v9 v10 wr => ∃ (i j f : Nat), i ≤ j ∧ j ≤ l.length ∧ j - i ≤ f ∧ f ≤ gg ∧ v9 = .int .i64 i ∧ v10 = .int .i64 j ∧ Aside0 (bgo l d l.length 0 l.length = bgo l d f i j) ∧ Below W0.heap.size W0 wr)
  case atStart => exact ⟨0, l.length, l.length, by omega, by omega, by omega, by omega, rfl, rfl, ⟨rfl⟩, Below.refl _ _⟩
  case round =>
    obtain ⟨i, j, f, hij, hj, hf, hfg, rfl, rfl, HG, hb⟩ := hrel
    by_cases hlt : i < j
    · have hlti : (i : Int) < (j : Int) := by omega
      obtain ⟨h, hh⟩ : ∃ h : Nat, (i + j) / 2 = h := ⟨_, rfl⟩
      have e1 : IntKind.i64.wrap ((i : Int) + j) = ((i + j : Nat) : Int) := by rw [i64_w]; unfold wrap64; omega
      go_wp2_with (fail)
      obtain ⟨hI, hhI⟩ : ∃ hI : Int, ((i : Int) + j) / 2 = hI := ⟨_, rfl⟩
      rw [hhI]
      have hIh : hI = (h : Int) := by omega
      have HI := Aside0.mk hIh
      have p1 := eq_true (show 0 ≤ hI by omega)
      have p2 := eq_true (show hI < (l.length : Int) by omega)
      obtain ⟨ad, e2, hx0, hx1⟩ := at_T31 (Kd.C_below HR0.out (below_step hbx hb)) hI (by omega) (by omega)
      subst e2
      have hy0 := (hb.cell (World.block_lt_of_cell? W0 _ hb0)).trans hb0
      have hy1 := (hb.cell (World.block_lt_of_cell? W0 _ hb1)).trans hb1
      clear hhI hIh
      obtain ⟨f, rfl⟩ : ∃ f', f = f' + 1 := ⟨f - 1, by omega⟩
      go_still_tail 6, (by kernel_rfl)
      change wpList _ _ _ _ _ wr.drew
      obtain ⟨r, ho1, ho2, _⟩ := order_is (rd_T31 l hI) d
      have HO2 := Aside0.mk ho2
      clear ho2
      have hb3 : Below W0.heap.size W0 wr.drew := pw_below_drewN hb 1
      generalize wr.drew = W6 at hb3 ⊢
      by_cases hr : r < 0
      · have hrd : decide (r < 0) = true := decide_eq_true hr
        go_wp2_with (go_at_call 59; refine (ring_order.calls 4 _ _ _ _ r _ ho1).mono ?_; rintro e w7 ⟨rfl, hb7⟩)
        have hw : wrap64 (hI + 1) = ((h + 1 : Nat) : Int) := by rw [HI.out]; unfold wrap64; omega
        go_roundg f
        case measure => omega
        case rel => exact ⟨h + 1, j, f, by omega, hj, by omega, Nat.le_refl _, by rw [hw], rfl, ⟨by rw [HG.out, bgo, if_pos hlt, hh, ← HI.out, if_pos (by cases hl : lt (rd_T31 l hI) d with | true => rfl | false => exact absurd (HO2.out.2 hl) (by omega))]⟩, below_step hb3 hb7⟩
      · have hrd : decide (r < 0) = false := decide_eq_false hr
        go_wp2_with (go_at_call 59; refine (ring_order.calls 4 _ _ _ _ r _ ho1).mono ?_; rintro e w7 ⟨rfl, hb7⟩)
        go_roundg f
        case measure => omega
        case rel => exact ⟨i, h, f, by omega, by omega, by omega, Nat.le_refl _, rfl, by rw [HI.out], ⟨by rw [HG.out, bgo, if_pos hlt, hh, ← HI.out, if_neg (by rw [HO2.out.1 (by omega)]; decide)]⟩, below_step hb3 hb7⟩
    · have hlti : ¬ (i : Int) < (j : Int) := by omega
      have hres : bgo l d l.length 0 l.length = i := by
        rw [HG.out]
        cases f with
        | zero => rfl
        | succ f => rw [bgo, if_neg hlt]
      have HRES := Aside0.mk hres
      clear hres
      by_cases hin : i < l.length
      · have hini : (i : Int) < (l.length : Int) := by omega
        go_wp2_with (fail)
        have pi := eq_true (show (0 : Int) ≤ (i : Int) by omega)
        obtain ⟨ad, e2, hx0, hx1⟩ := at_T31 (Kd.C_below HR0.out (below_step hbx hb)) (i : Int) (by omega) (by omega)
        rw [Int.toNat_natCast] at hx0 hx1
        subst e2
        have hy0 := (hb.cell (World.block_lt_of_cell? W0 _ hb0)).trans hb0
        have hy1 := (hb.cell (World.block_lt_of_cell? W0 _ hb1)).trans hb1
        obtain ⟨r, ho1, ho2, _⟩ := order_is (rd_T31 l i) d
        clear ho2
        have hx0' := (hb.cell (World.block_lt_of_cell? W0 _ hb0))
        have l0 := World.block_lt_of_cell? wr _ hx0
        have l1 := World.block_lt_of_cell? wr _ hx1
        have l2 := World.block_lt_of_cell? wr _ hy0
        have l3 := World.block_lt_of_cell? wr _ hy1
        go_region_held3 (fun w' => w'.cell? (ad.add (i * 2)) = some (.int .i64 (rd_T31 l i).f0) ∧ w'.cell? ⟨(ad.add (i * 2)).block, (ad.add (i * 2)).off + 1, none⟩ = some (.int .u64 (rd_T31 l i).f1) ∧ w'.cell? ⟨w.heap.size, 0, none⟩ = some (.int .i64 d.f0) ∧ w'.cell? ⟨w.heap.size, 1, none⟩ = some (.int .u64 d.f1))
          (first | go_keep | exact ⟨(hb7.cell l0).trans hx0, (hb7.cell (p := ⟨(ad.add (i * 2)).block, (ad.add (i * 2)).off + 1, none⟩) l1).trans hx1, (hb7.cell (p := ⟨w.heap.size, 0, none⟩) l2).trans hy0, (hb7.cell (p := ⟨w.heap.size, 1, none⟩) l3).trans hy1⟩)
          ((go_at_call 59; refine (ring_order.calls 4 _ _ _ _ r _ ho1).mono ?_; rintro e w7 ⟨rfl, hb7'⟩; have hb7 := below_step (below_drew1 (Below.refl wr.heap.size wr)) hb7'))
        go_wp2
        go_ret2
        exact ⟨_, by rw [HRES.out]; rfl, below_step hbx (below_step hb hb7)⟩
      · have hini : ¬ (i : Int) < (l.length : Int) := by omega
        go_wp2_with (fail)
        go_quiet (fail)
        go_wp2
        go_ret2
        exact ⟨_, by rw [HRES.out]; rfl, below_step hbx (pw_below_drewN hb _)⟩
end Go.Proofs.YtedolmjealgeoaaDoor.Rg

namespace Go.Proofs.YtedolmjealgeoaaDoor.Rg
open Go.RowKit Go.Maps Go.Proofs.YtedolmjealgeoaaDoor.PBase Go.Proofs.YtedolmjealgeoaaDoor.Cat Go.Proofs.YtedolmjealgeoaaDoorW.PrintWords Go.Proofs.YtedolmjealgeoaaDoorW.PrintLast Go.Proofs.YtedolmjealgeoaaDoorW.PrintMore
set_option linter.unusedVariables false
instance instS31 : Inhabited S31 := ⟨z31⟩
theorem rd_nat (l : List S31) (i : Nat) (h : i < l.length) : rd_T31 l (i : Int) = l[i] := by
  unfold rd_T31
  rw [Int.toNat_natCast, List.getD_eq_getElem?_getD, List.getElem?_eq_getElem h]
  rfl
/-- A plan. -/
def Gd (l : List S31) : Prop := (l.map (·.f0)).Nodup ∧ l.Pairwise (fun a b => lt a b = true)
theorem lt_iff (a b : S31) : lt a b = true ↔ a.f1 < b.f1 ∨ (a.f1 = b.f1 ∧ a.f0 < b.f0) := by unfold lt; simp
theorem lt_false (a b : S31) : lt a b = false ↔ ¬ (a.f1 < b.f1 ∨ (a.f1 = b.f1 ∧ a.f0 < b.f0)) := by rw [← lt_iff]; simp
theorem lt_total (x y : S31) (h1 : lt x y = false) (h2 : lt y x = false) : x = y := by
  rw [lt_false] at h1 h2
  have e0 : x.f0 = y.f0 := by omega
  have e1 : x.f1 = y.f1 := by omega
  cases x; cases y
  simp_all
/-- Timers in order. -/
def psort (l : List S31) : List S31 := l.mergeSort fun x y => !lt y x
/-- Where a timer goes, from the k-th place back. -/
def back (d : S31) (out : List S31) : Nat → Nat
  | 0 => 0
  | k + 1 => if lt d (rd_T31 out k) = true then back d out k else k + 1
def ins (out : List S31) (d : S31) : List S31 := out.take (back d out out.length) ++ (d :: out.drop (back d out out.length))
theorem less_is (a b : S31) : remontoirref05_Less.f a.f0 a.f1 b.f0 b.f1 = some (lt a b) := by
  unfold remontoirref05_Less.f lt
  by_cases h1 : a.f1 < b.f1
  · rw [if_pos h1, decide_eq_true h1]; rfl
  · rw [if_neg h1, decide_eq_false h1]
    by_cases h2 : a.f1 = b.f1
    · rw [if_pos h2]; simp [h2]
    · rw [if_neg h2]; simp [h2]
theorem ins_len (out : List S31) (d : S31) : (ins out d).length = out.length + 1 := by
  unfold ins
  have h : back d out out.length ≤ out.length := by
    generalize out.length = n
    induction n with
    | zero => exact Nat.le_refl _
    | succ n ih => unfold back; split <;> omega
  simp; omega
theorem fold_step {l out : List S31} (h : out.length < l.length) : (l.drop out.length).foldl ins out = (l.drop (ins out (rd_T31 l out.length)).length).foldl ins (ins out (rd_T31 l out.length)) := by
  rw [ins_len, List.drop_eq_getElem_cons h]
  unfold rd_T31
  rw [Int.toNat_natCast, List.getD_eq_getElem?_getD, List.getElem?_eq_getElem h]
  rfl
def isort (l : List S31) : List S31 := l.foldl ins []
theorem bgo_le (l : List S31) (d : S31) : ∀ (f i j : Nat), i ≤ j → bgo l d f i j ≤ j := by
  intro f
  induction f with
  | zero => intro i j h; exact h
  | succ f ih =>
    intro i j h
    unfold bgo
    split
    · split
      · exact ih _ _ (by omega)
      · exact Nat.le_trans (ih _ _ (by omega)) (by omega)
    · exact h
def bsp (l : List S31) (d : S31) : Nat := bgo l d l.length 0 l.length
/-- What Insert computes. -/
def insf (l : List S31) (d : S31) : List S31 := l.take (bsp l d) ++ d :: l.drop (bsp l d)
/-- Not behind. -/
def nb (a b : S31) : Prop := lt b a = false
theorem nb_iff (a b : S31) : nb a b ↔ ¬ (b.f1 < a.f1 ∨ (b.f1 = a.f1 ∧ b.f0 < a.f0)) := by
  unfold nb
  rw [← lt_iff, Bool.not_eq_true]
theorem nb_trans {a b c : S31} (h1 : nb a b) (h2 : nb b c) : nb a c := by rw [nb_iff] at *; omega
theorem nb_total (a b : S31) : nb a b ∨ nb b a := by rw [nb_iff, nb_iff]; omega
theorem nb_anti {a b : S31} (h1 : nb a b) (h2 : nb b a) : a = b := by
  rw [nb_iff] at h1 h2
  have e0 : a.f0 = b.f0 := by omega
  have e1 : a.f1 = b.f1 := by omega
  cases a; cases b; simp_all
theorem nb_of_lt {a b : S31} (h : lt a b = true) : nb a b := by rw [nb_iff]; rw [lt_iff] at h; omega
def So (l : List S31) : Prop := l.Pairwise nb
theorem uniq : ∀ {l m : List S31}, So l → So m → l.Perm m → l = m
  | [], m, _, _, h => (List.Perm.nil_eq h)
  | x :: l, [], _, _, h => absurd (List.Perm.length_eq h) (by simp)
  | x :: l, y :: m, h1, h2, h => by
    have h1' := List.pairwise_cons.1 h1
    have h2' := List.pairwise_cons.1 h2
    have e : x = y := by
      have hx : x ∈ y :: m := h.subset List.mem_cons_self
      have hy : y ∈ x :: l := h.symm.subset List.mem_cons_self
      rcases List.mem_cons.1 hx with hx | hx
      · exact hx
      · rcases List.mem_cons.1 hy with hy | hy
        · exact hy.symm
        · exact nb_anti (h1'.1 y hy) (h2'.1 x hx)
    subst e
    rw [uniq h1'.2 h2'.2 (List.perm_cons x |>.1 h)]
theorem psort_so (l : List S31) : So (psort l) := by
  have h := List.pairwise_mergeSort (le := fun x y : S31 => !lt y x) (fun a b c h1 h2 => by
    have k1 : nb a b := by unfold nb; simpa using h1
    have k2 : nb b c := by unfold nb; simpa using h2
    have := nb_trans k1 k2
    unfold nb at this
    simpa using this) (fun a b => by
    rcases nb_total a b with h | h <;> unfold nb at h <;> simp [h]) l
  unfold So psort
  refine h.imp ?_
  intro a b hab
  unfold nb
  simpa using hab
theorem psort_perm (l : List S31) : (psort l).Perm l := List.mergeSort_perm l _
theorem psort_of {l m : List S31} (h : So m) (hp : m.Perm l) : psort l = m := uniq (psort_so l) h ((psort_perm l).trans hp.symm)
/-- Where back stops. -/
theorem back_spec (d : S31) (out : List S31) : ∀ n, n ≤ out.length → back d out n ≤ n ∧ (∀ j, back d out n ≤ j → j < n → (hj : j < out.length) → lt d out[j] = true) ∧ (∀ j, j + 1 = back d out n → (hj : j < out.length) → nb out[j] d) := by
  intro n
  induction n with
  | zero => intro _; exact ⟨Nat.le_refl _, fun j _ h => absurd h (by omega), fun j h => absurd h (by simp [back])⟩
  | succ n ih =>
    intro hn
    obtain ⟨h1, h2, h3⟩ := ih (by omega)
    unfold back
    by_cases hc : lt d (rd_T31 out n) = true
    · rw [if_pos hc]
      refine ⟨by omega, fun j k1 k2 hj => ?_, h3⟩
      rcases Nat.lt_or_ge j n with h | h
      · exact h2 j k1 h hj
      · have : j = n := by omega
        subst this
        rwa [rd_nat out j hj] at hc
    · rw [if_neg hc]
      refine ⟨Nat.le_refl _, fun j k1 k2 => absurd k1 (by omega), fun j k hj => ?_⟩
      have : j = n := by omega
      subst this
      rw [rd_nat out j hj] at hc
      unfold nb
      simpa using hc
/-- A list parted where d goes, sorted: with d between it is sorted. -/
theorem so_put {l : List S31} (h : So l) (d : S31) (k : Nat) (h1 : ∀ j, j < k → (hj : j < l.length) → nb l[j] d) (h2 : ∀ j, k ≤ j → (hj : j < l.length) → nb d l[j]) : So (l.take k ++ d :: l.drop k) := by
  unfold So
  rw [List.pairwise_append]
  have hb : (l.take k ++ l.drop k).Pairwise nb := by rw [List.take_append_drop]; exact h
  rw [List.pairwise_append] at hb
  have hd : ∀ x ∈ l.drop k, nb d x := by
    intro x hx
    obtain ⟨i, hi, rfl⟩ := List.getElem_of_mem hx
    rw [List.getElem_drop]
    exact h2 _ (by omega) _
  have ht : ∀ x ∈ l.take k, nb x d := by
    intro x hx
    obtain ⟨i, hi, rfl⟩ := List.getElem_of_mem hx
    rw [List.getElem_take]
    rw [List.length_take] at hi
    exact h1 _ (by omega) _
  refine ⟨hb.1, List.pairwise_cons.2 ⟨hd, hb.2.1⟩, fun x hx y hy => ?_⟩
  rcases List.mem_cons.1 hy with rfl | hy
  · exact ht x hx
  · exact hb.2.2 x hx y hy
theorem perm_put (l : List S31) (d : S31) (k : Nat) : (l.take k ++ d :: l.drop k).Perm (d :: l) := by
  have := List.perm_middle (a := d) (l₁ := l.take k) (l₂ := l.drop k)
  rwa [List.take_append_drop] at this
theorem ins_so {out : List S31} (h : So out) (d : S31) : So (ins out d) := by
  obtain ⟨h1, h2, h3⟩ := back_spec d out out.length (Nat.le_refl _)
  unfold ins
  refine so_put h d _ (fun j hj hl => ?_) (fun j hj hl => nb_of_lt (h2 j hj hl hl))
  have hk : back d out out.length - 1 < out.length := by omega
  have h4 := h3 (back d out out.length - 1) (by omega) hk
  rcases Nat.lt_or_ge j (back d out out.length - 1) with hlt | hge
  · exact nb_trans (List.pairwise_iff_getElem.1 h j _ hl hk hlt) h4
  · have : j = back d out out.length - 1 := by omega
    subst this
    exact h4
theorem ins_perm (out : List S31) (d : S31) : (ins out d).Perm (d :: out) := perm_put out d _
theorem foldl_ins (l : List S31) : ∀ out, So out → So (l.foldl ins out) ∧ (l.foldl ins out).Perm (out ++ l) := by
  induction l with
  | nil => intro out h; exact ⟨h, by simp⟩
  | cons d l ih =>
    intro out h
    obtain ⟨h1, h2⟩ := ih (ins out d) (ins_so h d)
    refine ⟨h1, h2.trans ?_⟩
    exact ((ins_perm out d).append_right l).trans (by simpa using (List.perm_middle (a := d) (l₁ := out) (l₂ := l)).symm)
/-- The two sorts are one. -/
theorem isort_eq (l : List S31) : isort l = psort l := by
  obtain ⟨h1, h2⟩ := foldl_ins l [] List.Pairwise.nil
  exact (psort_of h1 (by simpa using h2)).symm
/-- The search, in a sorted list. -/
theorem bgo_spec {l : List S31} (h : So l) (d : S31) : ∀ (f i j : Nat), i ≤ j → j ≤ l.length → j - i ≤ f → (∀ m, m < i → (hm : m < l.length) → lt l[m] d = true) → (∀ m, j ≤ m → (hm : m < l.length) → nb d l[m]) →
    (∀ m, m < bgo l d f i j → (hm : m < l.length) → lt l[m] d = true) ∧ (∀ m, bgo l d f i j ≤ m → (hm : m < l.length) → nb d l[m]) := by
  intro f
  induction f with
  | zero =>
    intro i j h1 h2 h3 h4 h5
    have : i = j := by omega
    subst this
    exact ⟨h4, h5⟩
  | succ f ih =>
    intro i j h1 h2 h3 h4 h5
    unfold bgo
    by_cases hij : i < j
    · rw [if_pos hij]
      obtain ⟨q, hq⟩ : ∃ q, (i + j) / 2 = q := ⟨_, rfl⟩
      have hql : q < l.length := by omega
      rw [hq, rd_nat l q hql]
      by_cases hc : lt l[q] d = true
      · rw [if_pos hc]
        refine ih _ _ (by omega) h2 (by omega) (fun m hm hl => ?_) h5
        rcases Nat.lt_or_ge m q with hmq | hmq
        · have k1 := List.pairwise_iff_getElem.1 h m q hl hql hmq
          rw [nb_iff] at k1
          rw [lt_iff] at hc ⊢
          omega
        · have : m = q := by omega
          subst this
          exact hc
      · rw [if_neg hc]
        refine ih _ _ (by omega) (by omega) (by omega) h4 (fun m hm hl => ?_)
        have k0 : nb d l[q] := by unfold nb; simpa using hc
        rcases Nat.lt_or_ge q m with hmq | hmq
        · exact nb_trans k0 (List.pairwise_iff_getElem.1 h q m hql hl hmq)
        · have : m = q := by omega
          subst this
          exact k0
    · rw [if_neg hij]
      have : i = j := by omega
      subst this
      exact ⟨h4, h5⟩
theorem Gd.so {l : List S31} (h : Gd l) : So l := h.2.imp nb_of_lt
theorem insf_so {l : List S31} (h : So l) (d : S31) : So (insf l d) := by
  obtain ⟨h1, h2⟩ := bgo_spec h d l.length 0 l.length (Nat.zero_le _) (Nat.le_refl _) (by omega) (fun m hm => absurd hm (by omega)) (fun m hm hl => absurd hl (by omega))
  exact so_put h d _ (fun j hj hl => nb_of_lt (h1 j hj hl)) h2
theorem insf_perm (l : List S31) (d : S31) : (insf l d).Perm (d :: l) := perm_put l d _
theorem insf_eq {l : List S31} (h : So l) (d : S31) : insf l d = psort (d :: l) := (psort_of (insf_so h d) (insf_perm l d)).symm
/-- Sorted, and no number twice: a plan. -/
theorem gd_iff (l : List S31) : Gd l ↔ (l.map (·.f0)).Nodup ∧ So l := by
  refine ⟨fun h => ⟨h.1, h.so⟩, fun ⟨h1, h2⟩ => ⟨h1, ?_⟩⟩
  rw [List.nodup_iff_pairwise_ne, List.pairwise_map] at h1
  refine (h1.and h2).imp ?_
  rintro a b ⟨k1, k2⟩
  rw [nb_iff] at k2
  rw [lt_iff]
  omega
theorem gd_psort (l : List S31) (h : (l.map (·.f0)).Nodup) : Gd (psort l) := (gd_iff _).2 ⟨((psort_perm l).map _).nodup_iff.2 h, psort_so l⟩
theorem psort_gd {l : List S31} (h : Gd l) : psort l = l := psort_of h.so (List.Perm.refl _)
theorem psort_congr {l m : List S31} (h : l.Perm m) : psort l = psort m := uniq (psort_so l) (psort_so m) ((psort_perm l).trans (h.trans (psort_perm m).symm))
def ids (l : List S31) : List Int := l.map (·.f0)
def rm (l : List S31) (id : Int) : List S31 := l.filter (fun y => !(y.f0 == id))
theorem any_ids (l : List S31) (id : Int) : l.any (fun x => x.f0 == id) = true ↔ id ∈ ids l := by
  unfold ids
  rw [List.any_eq_true, List.mem_map]
  constructor
  · rintro ⟨x, h1, h2⟩; exact ⟨x, h1, by simpa using h2⟩
  · rintro ⟨x, h1, h2⟩; exact ⟨x, h1, by simpa using h2⟩
theorem any_false (l : List S31) (id : Int) (h : ¬ id ∈ ids l) : l.any (fun x => x.f0 == id) = false := by
  rw [← Bool.not_eq_true, any_ids]; exact h
theorem idx_in (id : Int) : ∀ (l : List S31), (ids l).Nodup → id ∈ ids l → ∀ i : Nat, ∃ p : Nat, p < l.length ∧ Lib.idxByFrom (fun _ y : S31 => y.f0 == id) default l i = ((i + p : Nat) : Int) ∧ l.take p ++ l.drop (p + 1) = rm l id := by
  intro l
  induction l with
  | nil => intro _ h; simp [ids] at h
  | cons y l ih =>
    intro hn hm i
    have hn' : ¬ y.f0 ∈ ids l ∧ (ids l).Nodup := by
      unfold ids at hn ⊢
      rw [List.map_cons, List.nodup_cons] at hn
      exact hn
    by_cases hy : y.f0 = id
    · refine ⟨0, by simp, by unfold Lib.idxByFrom; rw [if_pos (by simpa using hy)]; rfl, ?_⟩
      unfold rm
      rw [List.filter_cons_of_neg (by simp [hy])]
      simp only [List.take_zero, List.nil_append, Nat.zero_add, List.drop_succ_cons, List.drop_zero]
      rw [eq_comm, List.filter_eq_self]
      intro z hz
      have : z.f0 ≠ id := by
        rintro e
        apply hn'.1
        rw [hy, ← e]
        exact List.mem_map.2 ⟨z, hz, rfl⟩
      simpa using this
    · have hm' : id ∈ ids l := by
        unfold ids at hm ⊢
        rw [List.map_cons, List.mem_cons] at hm
        exact hm.resolve_left (fun h => hy h.symm)
      obtain ⟨p, h1, h2, h3⟩ := ih hn'.2 hm' (i + 1)
      refine ⟨p + 1, by simpa using h1, by unfold Lib.idxByFrom; rw [if_neg (by simpa using hy), h2]; omega, ?_⟩
      unfold rm at h3 ⊢
      rw [List.filter_cons_of_pos (by simpa using hy), ← h3]
      rfl
theorem idx_out (id : Int) : ∀ (l : List S31), ¬ id ∈ ids l → ∀ i : Nat, Lib.idxByFrom (fun _ y : S31 => y.f0 == id) default l i = -1 := by
  intro l
  induction l with
  | nil => intro _ i; rfl
  | cons y l ih =>
    intro h i
    unfold ids at h
    rw [List.map_cons, List.mem_cons, not_or] at h
    unfold Lib.idxByFrom
    rw [if_neg (by simpa using fun e => h.1 e.symm)]
    exact ih h.2 (i + 1)
theorem psort_len (l : List S31) : (psort l).length = l.length := (psort_perm l).length_eq
theorem psort_ids (l : List S31) (i : Int) : i ∈ ids (psort l) ↔ i ∈ ids l := ((psort_perm l).map _).mem_iff
theorem rm_psort (l : List S31) (i : Int) : rm (psort l) i = psort (rm l i) := by
  refine (psort_of ?_ ?_).symm
  · exact (psort_so l).filter _
  · exact (psort_perm l).filter _
end Go.Proofs.YtedolmjealgeoaaDoor.Rg

namespace Go.Proofs.YtedolmjealgeoaaDoor.Rg
open Go.RowKit Go.Maps Go.Proofs.YtedolmjealgeoaaDoor.PBase Go.Proofs.YtedolmjealgeoaaDoor.Cat Go.Proofs.YtedolmjealgeoaaDoorW.PrintWords Go.Proofs.YtedolmjealgeoaaDoorW.PrintLast Go.Proofs.YtedolmjealgeoaaDoorW.PrintMore
set_option linter.unusedVariables false
set_option maxHeartbeats 4000000 in
set_option maxRecDepth 100000 in
theorem rsort_walk (A0 : Option Addr) (c0 : Nat) (l : List S31) (w : World) (hr0 : Kd.C k31 w A0 l.length l) (hlen : l.length ≤ 1000000) :
    Calls Tryd.prog 76 #[.slice A0 l.length c0] w fun e w' => ∃ v0_, e = .returned v0_ ∧ Kd.R k31 31 w' w.heap.size (fun _ => True) v0_ (isort l) ∧ Below w.heap.size w w' := by
  have HR0 := Aside0.mk hr0
  clear hr0
  go_enter Tryd.func76, Tryd.ntmps76
  go_wp2
  go_loopg [3, 4] l.length (fun gg v3 v4 wr => ∃ (i : Nat) (out : List S31), i ≤ l.length ∧ l.length - i ≤ gg ∧ v4 = .int .i64 i ∧ out.length = i ∧ Aside0 (Kd.R k31 31 wr w.heap.size (fun _ => True) v3 out) ∧ Aside0 (isort l = (l.drop i).foldl ins out) ∧ Below w.heap.size w wr)
  case atStart => exact ⟨0, [], Nat.zero_le _, by omega, rfl, rfl, ⟨Kd.R_nil _ _ _ _ _⟩, ⟨rfl⟩, Below.refl _ _⟩
  case round =>
    obtain ⟨i, out, hi, hg, rfl, hol, HO, HS, hb⟩ := hrel
    subst hol
    by_cases hlt : out.length < l.length
    · obtain ⟨A3, c3, rfl, hc3, HC3⟩ := Kd.R_reads HO.out
      have HC3 := Aside0.mk HC3
      have hlti : (out.length : Int) < (l.length : Int) := by omega
      obtain ⟨ad, e1, hx0, hx1⟩ := at_T31 (Kd.C_below HR0.out hb) (out.length : Int) (by omega) (by omega)
      cases e1
      rw [Int.toNat_natCast] at hx0 hx1
      go_wp2
      rename World => WO
      go_loopg [5] (out.length) (fun gg v5 wk => ∃ k : Nat, k ≤ out.length ∧ k ≤ gg ∧ v5 = .int .i64 k ∧ Aside0 (back (rd_T31 l out.length) out out.length = back (rd_T31 l out.length) out k) ∧ Below WO.heap.size WO wk)
      case atStart => exact ⟨out.length, Nat.le_refl _, by omega, rfl, ⟨rfl⟩, Below.refl _ _⟩
      case round =>
        obtain ⟨k, hki, hkg, rfl, HB2, hb2⟩ := hrel
        cases k with
        | zero =>
          go_wp2_with (fail)
          go_quiet (fail)
          go_wp2_with (fail)
          have hw0 := pw_below_drewN hb2 nq
          have hw1 := below_step hb hw0
          have HCW := Aside0.mk (Kd.C_below HC3.out hw0)
          generalize wr.drewN nq = W at hw1 HCW ⊢
          obtain ⟨kk, hkk⟩ : ∃ kk : Int, ((0 : Nat) : Int) = kk := ⟨_, rfl⟩
          have hback : back (rd_T31 l out.length) out out.length = kk.toNat := by rw [HB2.out, ← hkk]; rfl
          have hk0 : 0 ≤ kk := by omega
          have hki' : kk ≤ (out.length : Int) := by omega
          rw [hkk]
          clear hkk
          obtain ⟨adx, e2, hy0, hy1⟩ := at_T31 (Kd.C_below HR0.out hw1) (out.length : Int) (by omega) (by omega)
          cases e2
          rw [Int.toNat_natCast] at hy0 hy1
          have hkc : kk ≤ (c3 : Int) := by omega
          have q1 := cut_cap A3 out.length c3 kk hk0 hkc
          obtain ⟨i0, hi0, _, hsz0, _⟩ := info_parts info31
          have q2 := cut_from (P := Tryd.prog) 42 31 .i64 Tryd.underlying42 hi0 2 hsz0 A3 out.length c3 kk hk0 hki'
          obtain ⟨A4, hA4⟩ : ∃ A4, A4 = (if c3 = kk.toNat then A3 else A3.map (·.add (kk.toNat * 2))) := ⟨_, rfl⟩
          rw [← hA4] at q2
          have HCD : Aside0 (Kd.C k31 W A4 (out.length - kk.toNat) (out.drop kk.toNat)) := ⟨by rw [hA4]; have h := Kd.C_drop (m := kk.toNat) (c := c3) HCW.out (by omega) hc3; rw [List.length_drop] at h; exact h⟩
          clear hA4
          have HCT : Aside0 (Kd.C k31 W A3 kk.toNat (out.take kk.toNat)) := ⟨by have h := Kd.C_take (m := kk.toNat) HCW.out (by omega); rw [List.length_take, Nat.min_eq_left (by omega)] at h; exact h⟩
          clear hsz0 hi0
          have hbW : Below W.heap.size W ((W.alloc (Obj.cells #[Value.int IntKind.i64 (rd_T31 l ↑out.length).f0, Value.int IntKind.u64 (rd_T31 l ↑out.length).f1] 31)).drew) := below_drew1 (below_alloc (Below.refl _ _) _)
          have hadl : (ad.add (out.length * 2)).block < W.heap.size := World.block_lt_of_cell? W _ hy0
          have hadl' : (⟨(ad.add (out.length * 2)).block, (ad.add (out.length * 2)).off + 1, none⟩ : Addr).block < W.heap.size := hadl
          go_region_held3 (fun w' => w'.cell? (ad.add (out.length * 2)) = some (.int .i64 (rd_T31 l out.length).f0) ∧ w'.cell? ⟨(ad.add (out.length * 2)).block, (ad.add (out.length * 2)).off + 1, none⟩ = some (.int .u64 (rd_T31 l out.length).f1)) (first | go_keep | exact ⟨(hby.cell hadl).trans hy0, (hby.cell hadl').trans hy1⟩ | exact ⟨(hbx.cell hadl).trans hy0, (hbx.cell hadl').trans hy1⟩)
            (first
              | (refine step_rows (K := _) W.heap.size (by rfl) (.tmp 38) (.tmp 41) (by rfl) (.slice (some ⟨W.heap.size, 0, none⟩) 1 1) [rd_T31 l out.length] A4 (out.length - kk.toNat) (c3 - kk.toNat) (out.drop kk.toNat) (by rfl) (by rfl) (Kd.R_drew (R_lit1 W (rd_T31 l out.length))) (Kd.C_drew (Kd.C_alloc HCD.out _)) (by simp) (by simp; omega) ?_; intro v1 w1 HV1 hb1; have hbx := hbW.trans hb1)
              | (refine step_full (K := _) (by rfl) (.tmp 33) (.tmp 42) (by rfl) A3 kk.toNat (out.take kk.toNat) v1 ([rd_T31 l out.length] ++ out.drop kk.toNat) (by rfl) (by rfl) (Kd.C_below HCT.out hbx) HV1 (by simp) (by simp; omega) ?_; intro v2 w2 HV2 hb2'; have hby := below_step hbx hb2'))
          go_wp2
          go_roundg (l.length - (out.length + 1))
          case measure => omega
          case rel => exact ⟨out.length + 1, ins out (rd_T31 l out.length), by omega, Nat.le_refl _, by go_num, ins_len _ _, ⟨by unfold ins; rw [hback]; exact Kd.R_lower HV2 (Nat.le_trans hw1.size hbx.size)⟩, ⟨by rw [HS.out, fold_step hlt, ins_len]⟩, below_step hw1 hby⟩
        | succ k =>
          obtain ⟨kk, hkk⟩ : ∃ kk : Int, ((k + 1 : Nat) : Int) = kk := ⟨_, rfl⟩
          rw [hkk]
          have hk0 : 0 ≤ kk := by omega
          have hki' : kk ≤ (out.length : Int) := by omega
          have hd : decide (0 < kk) = true := decide_eq_true (by omega)
          obtain ⟨j, hj⟩ : ∃ j : Int, kk - 1 = j := ⟨_, rfl⟩
          have hwj : IntKind.i64.wrap (kk - 1) = j := by rw [i64_w]; unfold wrap64; omega
          have hwj2 : IntKind.i64.wrap j = j := by rw [i64_w]; unfold wrap64; omega
          have hjk : j = (k : Int) := by omega
          have HJ := Aside0.mk hjk
          have HKK := Aside0.mk hkk
          have pj := eq_true (show 0 ≤ j by omega)
          have qj := eq_true (show j < (out.length : Int) by omega)
          obtain ⟨ad', e3, hp0, hp1⟩ := at_T31 (Kd.C_below HC3.out hb2) j (by omega) (by omega)
          subst e3
          have hz0 := (hb2.cell (World.block_lt_of_cell? WO _ hx0)).trans hx0
          have hz1 := (hb2.cell (World.block_lt_of_cell? WO _ hx1)).trans hx1
          clear hjk hkk hj
          go_wp2_with (fail)
          go_still_tail 12, (by kernel_rfl)
          change wpList _ _ _ _ _ wr.drew
          have hls := less_is (rd_T31 l out.length) (rd_T31 out j)
          have hb3 : Below WO.heap.size WO wr.drew := pw_below_drewN hb2 1
          generalize wr.drew = W6 at hb3 ⊢
          cases hr : lt (rd_T31 l out.length) (rd_T31 out j) with
          | true =>
            rw [hr] at hls
            go_wp2_with (go_at_call 27; refine (remontoirref05_Less.calls _ _ _ _ true _ hls).mono ?_; rintro e w7 ⟨rfl, hb7⟩)
            go_roundg k
            case measure => omega
            case rel => exact ⟨k, by omega, by omega, by rw [HJ.out], ⟨by rw [HB2.out, back, if_pos (by rw [← HJ.out]; exact hr)]⟩, below_step hb3 hb7⟩
          | false =>
            rw [hr] at hls
            go_wp2_with (go_at_call 27; refine (remontoirref05_Less.calls _ _ _ _ false _ hls).mono ?_; rintro e w7 ⟨rfl, hb7⟩)
            have hw0 := below_step hb3 hb7
            have hw1 := below_step hb hw0
            have HCW := Aside0.mk (Kd.C_below HC3.out hw0)
            have hback : back (rd_T31 l out.length) out out.length = kk.toNat := by rw [HB2.out, back, if_neg (by rw [← HJ.out, hr]; decide), ← HKK.out]; rfl
            obtain ⟨W, hWW⟩ : ∃ W, W = w7 := ⟨_, rfl⟩
            subst hWW
            obtain ⟨adx, e2, hy0, hy1⟩ := at_T31 (Kd.C_below HR0.out hw1) (out.length : Int) (by omega) (by omega)
            cases e2
            rw [Int.toNat_natCast] at hy0 hy1
            have hkc : kk ≤ (c3 : Int) := by omega
            have q1 := cut_cap (some ad') out.length c3 kk hk0 hkc
            obtain ⟨i0, hi0, _, hsz0, _⟩ := info_parts info31
            have q2 := cut_from (P := Tryd.prog) 42 31 .i64 Tryd.underlying42 hi0 2 hsz0 (some ad') out.length c3 kk hk0 hki'
            obtain ⟨A4, hA4⟩ : ∃ A4, A4 = (if c3 = kk.toNat then (some ad') else (some ad').map (·.add (kk.toNat * 2))) := ⟨_, rfl⟩
            rw [← hA4] at q2
            have HCD : Aside0 (Kd.C k31 W A4 (out.length - kk.toNat) (out.drop kk.toNat)) := ⟨by rw [hA4]; have h := Kd.C_drop (m := kk.toNat) (c := c3) HCW.out (by omega) hc3; rw [List.length_drop] at h; exact h⟩
            clear hA4
            have HCT : Aside0 (Kd.C k31 W (some ad') kk.toNat (out.take kk.toNat)) := ⟨by have h := Kd.C_take (m := kk.toNat) HCW.out (by omega); rw [List.length_take, Nat.min_eq_left (by omega)] at h; exact h⟩
            clear hsz0 hi0
            have hbW : Below W.heap.size W ((W.alloc (Obj.cells #[Value.int IntKind.i64 (rd_T31 l ↑out.length).f0, Value.int IntKind.u64 (rd_T31 l ↑out.length).f1] 31)).drew) := below_drew1 (below_alloc (Below.refl _ _) _)
            have hadl : (ad.add (out.length * 2)).block < W.heap.size := World.block_lt_of_cell? W _ hy0
            have hadl' : (⟨(ad.add (out.length * 2)).block, (ad.add (out.length * 2)).off + 1, none⟩ : Addr).block < W.heap.size := hadl
            go_region_held3 (fun w' => w'.cell? (ad.add (out.length * 2)) = some (.int .i64 (rd_T31 l out.length).f0) ∧ w'.cell? ⟨(ad.add (out.length * 2)).block, (ad.add (out.length * 2)).off + 1, none⟩ = some (.int .u64 (rd_T31 l out.length).f1)) (first | go_keep | exact ⟨(hby.cell hadl).trans hy0, (hby.cell hadl').trans hy1⟩ | exact ⟨(hbx.cell hadl).trans hy0, (hbx.cell hadl').trans hy1⟩)
              (first
                | (refine step_rows (K := _) W.heap.size (by rfl) (.tmp 38) (.tmp 41) (by rfl) (.slice (some ⟨W.heap.size, 0, none⟩) 1 1) [rd_T31 l out.length] A4 (out.length - kk.toNat) (c3 - kk.toNat) (out.drop kk.toNat) (by rfl) (by rfl) (Kd.R_drew (R_lit1 W (rd_T31 l out.length))) (Kd.C_drew (Kd.C_alloc HCD.out _)) (by simp) (by simp; omega) ?_; intro v1 w1 HV1 hb1; have hbx := hbW.trans hb1)
                | (refine step_full (K := _) (by rfl) (.tmp 33) (.tmp 42) (by rfl) (some ad') kk.toNat (out.take kk.toNat) v1 ([rd_T31 l out.length] ++ out.drop kk.toNat) (by rfl) (by rfl) (Kd.C_below HCT.out hbx) HV1 (by simp) (by simp; omega) ?_; intro v2 w2 HV2 hb2'; have hby := below_step hbx hb2'))
            go_wp2
            go_roundg (l.length - (out.length + 1))
            case measure => omega
            case rel => exact ⟨out.length + 1, ins out (rd_T31 l out.length), by omega, Nat.le_refl _, by go_num, ins_len _ _, ⟨by unfold ins; rw [hback]; exact Kd.R_lower HV2 (Nat.le_trans hw1.size hbx.size)⟩, ⟨by rw [HS.out, fold_step hlt, ins_len]⟩, below_step hw1 hby⟩
    · have hle : out.length = l.length := by omega
      have hlti : ¬ (out.length : Int) < (l.length : Int) := by omega
      go_wp2_with (fail)
      go_ret
      exact ⟨_, rfl, by rw [HS.out, List.drop_eq_nil_of_le (by omega)]; exact HO.out, hb⟩
end Go.Proofs.YtedolmjealgeoaaDoor.Rg
