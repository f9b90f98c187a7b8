/- The reference's functions, plain: what the printed walks tell. Conditions: the lists' lengths. -/
import Derived.Test.YtgffcbhkkjigfaaSt
import Derived.Test.YtgffcbhkkjigfaaOd
namespace Go.Proofs.Ytgffcbhkkjigfaa.Ln
open Go.RowKit Go.Proofs.Ytgffcbhkkjigfaa.PBase Go.Proofs.Ytgffcbhkkjigfaa.Heap
set_option linter.unusedVariables false
theorem w1 {i n : Nat} (h : i < n) (hn : n ≤ 1000000) : wrap64 ((i : Int) + 1) = ((i + 1 : Nat) : Int) := by unfold wrap64; omega
theorem rd_get {L : List S32} {i : Nat} (h : i < L.length) : rd_T32 L (i : Int) = L[i] := by simp [rd_T32, h]
/-- find: the place. -/
theorem ref_find_go (id a b c : Int) : ∀ (n : Nat) (L : List S32) (i : Nat), L.length ≤ i + n → i ≤ L.length → L.length ≤ 1000000 →
    remontoirref09_Queue_find.l0 (n + 1) id (i : Int) a b c L = some (Lib.idxByFrom (fun _ y : S32 => y.f0 == id) default (L.drop i) i, a, b, c) := by
  intro n
  induction n with
  | zero =>
    intro L i h1 h2 h3
    rw [remontoirref09_Queue_find.l0, if_neg (by omega), List.drop_eq_nil_of_le (by omega)]
    rfl
  | succ n ih =>
    intro L i h1 h2 h3
    rw [remontoirref09_Queue_find.l0]
    by_cases c1 : (i : Int) < (L.length : Int)
    · have hi : i < L.length := by omega
      rw [if_pos c1, if_pos (by omega), List.drop_eq_getElem_cons hi, rd_get hi]
      unfold Lib.idxByFrom
      by_cases c2 : L[i].f0 = id
      · rw [if_pos c2, if_pos (by simpa using c2)]
      · rw [if_neg c2, if_neg (by simpa using c2), w1 hi h3]
        exact ih L (i + 1) (by omega) (by omega) h3
    · rw [if_neg c1, List.drop_eq_nil_of_le (by omega)]
      rfl
theorem ref_find (L : List S32) (id a b c : Int) (h : L.length ≤ 1000000) : remontoirref09_Queue_find.f (L.length + 1) a b c L id = some (place L id, a, b, c) := by
  have := ref_find_go id a b c L.length L 0 (by omega) (by omega) h
  simpa [remontoirref09_Queue_find.f, place, Lib.idxBy] using this
theorem in_is (n a b : Int) : turn_in.f n a b = some (decide (a ≤ n ∧ n ≤ b)) := by
  unfold turn_in.f
  by_cases h : n ≥ a
  · rw [if_pos h]
    congr 1
    exact decide_eq_decide.2 ⟨fun k => ⟨h, k⟩, fun k => k.2⟩
  · rw [if_neg h]
    congr 1
    exact (decide_eq_false (fun k => h k.1)).symm
theorem good_is (a b c : Int) : turn_Good.f a b c = some (decide ((0 ≤ b ∧ b < 8) ∧ 0 ≤ c ∧ c ≤ 1099511627776)) := by
  unfold turn_Good.f
  rw [in_is, Option.bind_some]
  by_cases h : 0 ≤ b ∧ b ≤ 7
  · rw [if_pos (decide_eq_true h), in_is, Option.bind_some]
    congr 1
    exact decide_eq_decide.2 ⟨fun k => ⟨⟨h.1, by omega⟩, k⟩, fun k => k.2⟩
  · rw [if_neg (by simpa using h)]
    congr 1
    exact (decide_eq_false (fun k => h ⟨k.1.1, by omega⟩)).symm
theorem rgood_is (a b c : Int) : remontoirref08_Good.f a b c = some (decide ((0 ≤ b ∧ b < 8) ∧ 0 ≤ c ∧ c ≤ 1099511627776)) := by
  unfold remontoirref08_Good.f
  by_cases h1 : b ≥ 0
  · rw [if_pos h1]
    by_cases h2 : b < 8
    · rw [if_pos h2]
      by_cases h3 : c ≥ 0
      · rw [if_pos h3]
        congr 1
        exact decide_eq_decide.2 ⟨fun k => ⟨⟨h1, h2⟩, h3, k⟩, fun k => k.2.2⟩
      · rw [if_neg h3]
        congr 1
        exact (decide_eq_false (fun k => h3 k.2.1)).symm
    · rw [if_neg h2]
      congr 1
      exact (decide_eq_false (fun k => h2 k.1.2)).symm
  · rw [if_neg h1]
    congr 1
    exact (decide_eq_false (fun k => h1 k.1.1)).symm
/-- The reference's order is the order. -/
theorem ref_turn (ag : Int) (x : S32) : remontoirref08_Turn.f ag x.f0 x.f1 x.f2 = some (tv ag x) := by
  rw [← tv_is]
  unfold turn_Turn.f remontoirref08_Turn.f
  rw [good_is, rgood_is, Option.bind_some, Option.bind_some]
  generalize decide ((0 ≤ x.f1 ∧ x.f1 < 8) ∧ 0 ≤ x.f2 ∧ x.f2 ≤ 1099511627776) = g
  cases g with
  | false => rfl
  | true =>
    rw [if_pos rfl, if_pos rfl, in_is, Option.bind_some]
    by_cases h1 : ag < 1
    · rw [if_pos h1, if_neg (by simp; omega)]
    · rw [if_neg h1]
      by_cases h2 : ag > 1000
      · rw [if_pos h2, if_neg (by simp; omega)]
      · rw [if_neg h2, if_pos (decide_eq_true (by omega))]
theorem ref_less (ag : Int) (x y : S32) : remontoirref08_Less.f ag x.f0 x.f1 x.f2 y.f0 y.f1 y.f2 = some (lt ag x y) := by
  unfold remontoirref08_Less.f
  rw [ref_turn, ref_turn, Option.bind_some, Option.bind_some]
  by_cases h1 : tv ag x < tv ag y
  · rw [if_pos h1, (lt_iff ag x y).2 (.inl h1)]
  · rw [if_neg h1]
    by_cases h2 : tv ag x = tv ag y
    · rw [if_pos h2]
      congr 1
      by_cases h3 : x.f0 < y.f0
      · rw [decide_eq_true h3, (lt_iff ag x y).2 (.inr ⟨h2, h3⟩)]
      · rw [decide_eq_false h3, (lt_false ag x y).2 (by omega)]
    · rw [if_neg h2, (lt_false ag x y).2 (by omega)]
/-- How many are ahead of one. -/
def cnt (ag : Int) (w : S32) (L : List S32) : Nat := L.countP (fun x => lt ag x w)
theorem ref_ahead_go (ag : Int) (w : S32) : ∀ (n : Nat) (L : List S32) (i m : Nat), L.length ≤ i + n → i ≤ L.length → m ≤ i → L.length ≤ 1000000 →
    remontoirref08_Ahead.l0 (n + 1) ag L (m : Int) (i : Int) w.f0 w.f1 w.f2 = some (((m + cnt ag w (L.drop i) : Nat) : Int)) := by
  intro n
  induction n with
  | zero =>
    intro L i m h1 h2 hm h3
    rw [remontoirref08_Ahead.l0, if_neg (by omega), List.drop_eq_nil_of_le (by omega)]
    rfl
  | succ n ih =>
    intro L i m h1 h2 hm h3
    rw [remontoirref08_Ahead.l0]
    by_cases c1 : (i : Int) < (L.length : Int)
    · have hi : i < L.length := by omega
      rw [if_pos c1, if_pos (by omega), rd_get hi, ref_less, Option.bind_some, List.drop_eq_getElem_cons hi]
      unfold cnt
      rw [List.countP_cons]
      cases c2 : lt ag L[i] w with
      | true =>
        rw [if_pos rfl, w1 (i := m) (n := L.length) (by omega) h3, w1 hi h3, ih L (i + 1) (m + 1) (by omega) (by omega) (by omega) h3, if_pos rfl]
        unfold cnt
        congr 2
        omega
      | false =>
        rw [if_neg (by decide), w1 hi h3, ih L (i + 1) m (by omega) (by omega) (by omega) h3, if_neg (by decide)]
        rfl
    · rw [if_neg c1, List.drop_eq_nil_of_le (by omega)]
      rfl
theorem ref_ahead (ag : Int) (w : S32) (L : List S32) (n : Nat) (hn : L.length ≤ n) (h : L.length ≤ 1000000) : remontoirref08_Ahead.f (n + 1) ag w.f0 w.f1 w.f2 L = some ((cnt ag w L : Nat) : Int) := by
  have := ref_ahead_go ag w n L 0 0 (by omega) (by omega) (Nat.le_refl _) h
  simpa [remontoirref08_Ahead.f] using this
/-- The first of some: its place. -/
def fst (ag : Int) (A : List S32) : Nat → List S32 → Int
  | _, [] => -1
  | i, y :: L => if cnt ag y A = 0 then (i : Int) else fst ag A (i + 1) L
theorem ref_first_go (ag : Int) : ∀ (n k : Nat) (L : List S32) (i : Nat), L.length ≤ i + n → i ≤ L.length → L.length ≤ k → L.length ≤ 1000000 →
    remontoirref08_First.l0 (k + 2 + n) ag L (i : Int) = some (fst ag L i (L.drop i)) := by
  intro n
  induction n with
  | zero =>
    intro k L i h1 h2 hk h3
    rw [show k + 2 + 0 = (k + 1) + 1 by omega, remontoirref08_First.l0, if_neg (by omega), List.drop_eq_nil_of_le (by omega)]
    rfl
  | succ n ih =>
    intro k L i h1 h2 hk h3
    rw [show k + 2 + (n + 1) = (k + 2 + n) + 1 by omega, remontoirref08_First.l0]
    by_cases c1 : (i : Int) < (L.length : Int)
    · have hi : i < L.length := by omega
      rw [if_pos c1, if_pos (by omega), rd_get hi, show k + 2 + n = (k + 1 + n) + 1 by omega, ref_ahead ag L[i] L (k + 1 + n) (by omega) h3, Option.bind_some, List.drop_eq_getElem_cons hi]
      unfold fst
      by_cases c2 : cnt ag L[i] L = 0
      · rw [if_pos (by omega), if_pos c2]
      · rw [if_neg (by omega), if_neg c2, w1 hi h3, show (k + 1 + n) + 1 = k + 2 + n by omega]
        exact ih k L (i + 1) (by omega) (by omega) hk h3
    · rw [if_neg c1, List.drop_eq_nil_of_le (by omega)]
      rfl
theorem ref_first (ag : Int) (L : List S32) (h : L.length ≤ 1000000) : remontoirref08_First.f (L.length + 2 + L.length) ag L = some (fst ag L 0 L) := by
  have := ref_first_go ag L.length L.length L 0 (by omega) (by omega) (Nat.le_refl _) h
  simpa [remontoirref08_First.f] using this
theorem fst_cases (ag : Int) (A : List S32) : ∀ (L : List S32) (i : Nat), (fst ag A i L = -1 ∧ ∀ y ∈ L, cnt ag y A ≠ 0) ∨ ∃ j, ∃ h : j < L.length, fst ag A i L = ((i + j : Nat) : Int) ∧ cnt ag L[j] A = 0 := by
  intro L
  induction L with
  | nil => intro i; exact .inl ⟨rfl, fun y h => (List.not_mem_nil h).elim⟩
  | cons y L ih =>
    intro i
    unfold fst
    by_cases c : cnt ag y A = 0
    · rw [if_pos c]
      exact .inr ⟨0, by simp, by simp, c⟩
    · rw [if_neg c]
      rcases ih (i + 1) with ⟨h1, h2⟩ | ⟨j, hj, h1, h2⟩
      · refine .inl ⟨h1, fun z hz => ?_⟩
        rcases List.mem_cons.1 hz with rfl | hz
        · exact c
        · exact h2 z hz
      · exact .inr ⟨j + 1, by simpa using hj, by rw [h1]; omega, h2⟩
theorem cnt_zero {ag : Int} {w : S32} {L : List S32} : cnt ag w L = 0 ↔ ∀ x ∈ L, lt ag x w = false := by
  unfold cnt
  rw [List.countP_eq_zero]
  simp
end Go.Proofs.Ytgffcbhkkjigfaa.Ln

namespace Go.Proofs.Ytgffcbhkkjigfaa.Ln
open Go.RowKit Go.Proofs.Ytgffcbhkkjigfaa.PBase Go.Proofs.Ytgffcbhkkjigfaa.Heap
set_option linter.unusedVariables false
/-- What the reference's Drop leaves. -/
def rdropL (L : List S32) (id : Int) : List S32 := if 0 ≤ place L id then L.take (place L id).toNat ++ L.drop ((place L id).toNat + 1) else L
theorem place_perm {L M : List S32} (h : L.Perm M) (id : Int) : 0 ≤ place L id ↔ 0 ≤ place M id := by
  rw [place_in, place_in, (ids_perm h).mem_iff]
theorem putE_perm {L M : List S32} (h : L.Perm M) (rm id cl : Int) : putE L rm id cl = putE M rm id cl := by
  unfold putE
  rw [h.length_eq]
  by_cases c1 : cl < 0 ∨ 8 ≤ cl
  · rw [if_pos c1, if_pos c1]
  · rw [if_neg c1, if_neg c1]
    by_cases c2 : 0 ≤ place L id
    · rw [if_pos c2, if_pos ((place_perm h id).1 c2)]
    · rw [if_neg c2, if_neg (fun e => c2 ((place_perm h id).2 e))]
theorem putE_zero {L : List S32} {rm id cl : Int} (h : putE L rm id cl = 0) : id ∉ ids L := by
  intro e
  unfold putE at h
  by_cases c1 : cl < 0 ∨ 8 ≤ cl
  · rw [if_pos c1] at h; omega
  · rw [if_neg c1, if_pos ((place_in L id).2 e)] at h; omega
/-- What the reference's Put leaves. -/
def rputL (rm ct : Int) (L : List S32) (id cl : Int) : List S32 := if putE L rm id cl = 0 then L ++ [⟨id, cl, ct⟩] else L
theorem rput_perm {ag rm ct : Int} {L M : List S32} (h : L.Perm M) (hs : St ag M) (id cl : Int) : (rputL rm ct L id cl).Perm (putL ag rm ct M id cl) ∧ St ag (putL ag rm ct M id cl) := by
  unfold rputL putL
  rw [putE_perm h]
  by_cases c : putE M rm id cl = 0
  · rw [if_pos c, if_pos c]
    obtain ⟨h1, h2⟩ := hs.push (x := ⟨id, cl, ct⟩) (putE_zero c)
    refine ⟨?_, h1⟩
    have h3 : (L ++ [(⟨id, cl, ct⟩ : S32)]).Perm (⟨id, cl, ct⟩ :: L) := List.perm_append_comm (l₁ := L) (l₂ := [⟨id, cl, ct⟩])
    exact (h3.trans (h.cons _)).trans h2.symm
  · rw [if_neg c, if_neg c]
    exact ⟨h, hs⟩
theorem split_at {L : List S32} {k : Nat} (hk : k < L.length) : L.Perm (L[k] :: (L.take k ++ L.drop (k + 1))) := by
  have h1 : L = L.take k ++ (L[k] :: L.drop (k + 1)) := by
    rw [← List.drop_eq_getElem_cons hk, List.take_append_drop]
  exact (List.Perm.of_eq h1).trans List.perm_middle
theorem rdrop_split {L : List S32} {id : Int} (h : id ∈ ids L) : ∃ y, y ∈ L ∧ y.f0 = id ∧ L.Perm (y :: rdropL L id) := by
  rcases place_cases L id with ⟨h1, h2⟩ | ⟨k, h1, h2, h3⟩
  · have := (place_in L id).2 h
    omega
  · unfold rdropL
    rw [h2, if_pos (by omega), Int.toNat_natCast]
    rw [g_lt z32 h1] at h3
    exact ⟨L[k], List.getElem_mem h1, h3, split_at h1⟩
theorem rdrop_perm {ag : Int} {L M : List S32} (h : L.Perm M) (hs : St ag M) (id : Int) : (rdropL L id).Perm (dropL ag M id) ∧ St ag (dropL ag M id) := by
  by_cases c : id ∈ ids M
  · obtain ⟨x, hx, hx1, hs2, hp⟩ := hs.drop c
    obtain ⟨y, hy, hy1, hp2⟩ := rdrop_split ((ids_perm h).mem_iff.2 c)
    have e : y = x := same_id hs.nd (h.mem_iff.1 hy) hx (hy1.trans hx1.symm)
    subst e
    exact ⟨List.Perm.cons_inv (hp2.symm.trans (h.trans hp)), hs2⟩
  · have c2 : id ∉ ids L := fun e => c ((ids_perm h).mem_iff.1 e)
    rw [drop_no c]
    unfold rdropL
    rw [if_neg (by rw [place_in]; exact c2)]
    exact ⟨h, hs⟩
/-- The reference's first is the least. -/
theorem rfirst_least {ag : Int} {L : List S32} (nd : (ids L).Nodup) {x : S32} (hx : x ∈ L) (hl : ∀ y ∈ L, lt ag y x = false) : ∃ j, ∃ h : j < L.length, fst ag L 0 L = (j : Int) ∧ L[j] = x := by
  rcases fst_cases ag L L 0 with ⟨h1, h2⟩ | ⟨j, hj, h1, h2⟩
  · exact absurd (cnt_zero.2 hl) (h2 x hx)
  · refine ⟨j, hj, by rw [h1]; omega, ?_⟩
    have h3 := cnt_zero.1 h2 x hx
    have h4 := hl L[j] (List.getElem_mem hj)
    rw [lt_false] at h3 h4
    exact same_id nd (List.getElem_mem hj) hx (by omega)
theorem rtake_perm {ag : Int} {L M : List S32} (h : L.Perm M) (hs : St ag M) (h0 : 0 < M.length) : (∃ j, ∃ hj : j < L.length, fst ag L 0 L = (j : Int) ∧ L[j] = Heap.g z32 M 0) ∧ (rdropL L (Heap.g z32 M 0).f0).Perm (removeL ag M 0) ∧ St ag (removeL ag M 0) := by
  obtain ⟨t1, t2, t3⟩ := hs.take h0
  have hg : Heap.g z32 M 0 ∈ M := t2.mem_iff.2 List.mem_cons_self
  have hgl := h.mem_iff.2 hg
  have ndl := (ids_perm h).nodup_iff.2 hs.nd
  refine ⟨rfirst_least ndl hgl (fun y hy => t3 y (h.mem_iff.1 hy)), ?_, t1⟩
  obtain ⟨y, hy, hy1, hp2⟩ := rdrop_split (mem_ids hgl)
  have e : y = Heap.g z32 M 0 := same_id ndl hy hgl hy1
  subst e
  exact List.Perm.cons_inv (hp2.symm.trans (h.trans t2))
/-- A step of the reference's List: C is what is left of the sorted row M. -/
theorem rlist_step {ag : Int} {M C : List S32} {i : Nat} (hs : Sorted ag M) (nd : (ids M).Nodup) (hC : C.Perm (M.drop i)) (hi : i < M.length) : (∃ j, ∃ hj : j < C.length, fst ag C 0 C = (j : Int) ∧ C[j] = rd_T32 M i) ∧ (rdropL C (rd_T32 M i).f0).Perm (M.drop (i + 1)) := by
  have hd := drop_rd hi
  rw [hd] at hC
  have hin : rd_T32 M i ∈ C := hC.mem_iff.2 List.mem_cons_self
  have hsd : Sorted ag (rd_T32 M i :: M.drop (i + 1)) := by
    rw [← hd]
    exact hs.drop
  have ndd : (ids (rd_T32 M i :: M.drop (i + 1))).Nodup := by
    rw [← hd]
    exact nd.sublist ((List.drop_sublist _ _).map _)
  have ndc := (ids_perm hC).nodup_iff.2 ndd
  refine ⟨rfirst_least ndc hin (fun y hy => ?_), ?_⟩
  · rcases List.mem_cons.1 (hC.mem_iff.1 hy) with rfl | e
    · exact (lt_swo ag).irrefl _
    · exact (List.pairwise_cons.1 hsd).1 _ e
  · obtain ⟨y, hy, hy1, hp2⟩ := rdrop_split (mem_ids hin)
    have e : y = rd_T32 M i := same_id ndc hy hin hy1
    subst e
    exact List.Perm.cons_inv (hp2.symm.trans hC)
end Go.Proofs.Ytgffcbhkkjigfaa.Ln

namespace Go.Proofs.Ytgffcbhkkjigfaa.Ln
open Go.RowKit Go.Proofs.Ytgffcbhkkjigfaa.PBase Go.Proofs.Ytgffcbhkkjigfaa.Cat Go.Proofs.Ytgffcbhkkjigfaa.Heap Go.Proofs.YtgffcbhkkjigfaaW.PrintWords Go.Proofs.YtgffcbhkkjigfaaW.PrintLast Go.Proofs.YtgffcbhkkjigfaaW.PrintMore
set_option linter.unusedVariables false
/-- The reference's queue: its block, and a row that is never written again. -/
structure RS (N : Nat) (w : World) (R : Nat) (v : Value) (ag rm ct : Int) (L : List S32) : Prop where
  g : w.heap[R]? = some (.cells #[.int .i64 ag, .int .i64 rm, .int .i64 ct, v] 50 (0, 0))
  r : Kd.R k32 32 w N (fun k => v.ownBlock = some k ∧ k ≠ R) v L
  nr : N ≤ R
section
variable {N : Nat} {w w' : World} {R : Nat} {v : Value} {ag rm ct : Int} {L : List S32}
theorem RS.keep {F : Nat → Prop} (h : RS N w R v ag rm ct L) (hf : Fr F w w') (h1 : ¬ F R) (h2 : ∀ k, v.ownBlock = some k → ¬ F k) : RS N w' R v ag rm ct L :=
  ⟨(hf.blk R (blk_lt h.g) h1).trans h.g, Kd.R_kept h.r (S := F) ⟨hf.size, fun i hi hn => hf.blk i hi hn⟩ (fun k hk => h2 k hk.1), h.nr⟩
theorem RS.step (h : RS N w R v ag rm ct L) (hb : Below w.heap.size w w') : RS N w' R v ag rm ct L := h.keep (F := fun _ => False) (Fr.of_below hb) (fun h => h) (fun _ _ h => h)
theorem find_step {id : Int} {L : List S32} {i : Nat} (hi : i < L.length) : Lib.idxByFrom (fun _ y : S32 => y.f0 == id) default (L.drop i) i = if L[i].f0 = id then (i : Int) else Lib.idxByFrom (fun _ y : S32 => y.f0 == id) default (L.drop (i + 1)) (i + 1) := by
  rw [List.drop_eq_getElem_cons hi]
  conv => lhs; unfold Lib.idxByFrom
  by_cases c2 : L[i].f0 = id
  · rw [if_pos c2, if_pos (by simpa using c2)]
  · rw [if_neg c2, if_neg (by simpa using c2)]
set_option maxHeartbeats 4000000 in
set_option maxRecDepth 100000 in
theorem rfind_calls (h : RS N w R v ag rm ct L) (id : Int) (hl : L.length ≤ 1000000) : Calls Try.prog 34 #[.pointer (some ⟨R, 0, none⟩), .int .i64 id] w fun e w' => e = .returned (.int .i64 (place L id)) ∧ Below w.heap.size w w' := by
  have c3 : w.cell? ⟨R, 3, none⟩ = some v := (blk_cell h.g 3).trans rfl
  obtain ⟨A, c, rfl, hc, hC⟩ := Kd.R_reads h.r
  have HC := Aside0.mk hC
  have hP : Aside0 (place L id = Lib.idxByFrom (fun _ y : S32 => y.f0 == id) default (L.drop 0) 0) := ⟨by simp [place, Lib.idxBy]⟩
  clear hC hc
  go_enter Try.func34, Try.ntmps34
  go_wp2
  go_loopg [5] L.length (fun gg v5 wr => ∃ i : Nat, v5 = .int .i64 i ∧ i ≤ L.length ∧ L.length - i ≤ gg ∧ wr = w ∧ Aside0 (place L id = Lib.idxByFrom (fun _ y : S32 => y.f0 == id) default (L.drop i) i))
  case atStart => exact ⟨0, rfl, Nat.zero_le _, by omega, rfl, hP⟩
  case round =>
    obtain ⟨i, rfl, hil, hgg, rfl, hQ⟩ := hrel
    clear hP
    by_cases hi : i < L.length
    · have hi2 : (i : Int) < (L.length : Int) := by omega
      have p1 := eq_true (show 0 ≤ (i : Int) by omega)
      obtain ⟨ad, e1, hx0, _, _⟩ := at_T32 HC.out (i : Int) (by omega) hi2
      subst e1
      rw [Int.toNat_natCast, rd_get hi] at hx0
      have hst := find_step (id := id) hi
      have hst := Aside0.mk hst
      have hl2 : (L.length : Int) ≤ 1000000 := by omega
      by_cases hd : L[i].f0 = id
      · replace hQ : Aside0 (place L id = (i : Int)) := ⟨by rw [hQ.out, hst.out, if_pos hd]⟩
        clear hst
        go_wp2
        go_ret
        exact ⟨by rw [hQ.out]; rfl, Below.refl _ _⟩
      · replace hQ : Aside0 (place L id = Lib.idxByFrom (fun _ y : S32 => y.f0 == id) default (L.drop (i + 1)) (i + 1)) := ⟨by rw [hQ.out, hst.out, if_neg hd]⟩
        clear hst
        go_wp2
        go_roundg (L.length - (i + 1))
        case measure => omega
        case rel => exact ⟨i + 1, by go_num, by omega, Nat.le_refl _, rfl, hQ⟩
    · have hi2 : ¬ (i : Int) < (L.length : Int) := by omega
      replace hQ : Aside0 (place L id = -1) := ⟨by rw [hQ.out, List.drop_eq_nil_of_le (by omega)]; rfl⟩
      go_wp2
      go_ret
      exact ⟨by rw [hQ.out]; rfl, Below.refl _ _⟩
end
end Go.Proofs.Ytgffcbhkkjigfaa.Ln
