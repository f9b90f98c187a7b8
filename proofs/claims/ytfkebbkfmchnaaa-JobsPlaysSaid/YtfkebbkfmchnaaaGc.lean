/- Rows looked up by a key, plain. Conditions: none. -/
import Derived.Calls
import Derived.Test.YtfkebbkfmchnaaaGa
import Derived.Maps.Range
import Derived.Deep.RegionHeld3
import Derived.Test.YtfkebbkfmchnaaaGb
import Derived.Deep.DeepCutAuto
import Derived.Deep.CutBlock
import Derived.Deep.QuietTactic
import Derived.StillTailTactics
namespace Go.Proofs.Ytfkebbkfmchnaaa.Lst
section
variable {α : Type} {κ : α → Int}
/-- The first element with a key. -/
def lk (κ : α → Int) (l : List α) (x : Int) : Option α := l.find? (fun a => κ a == x)
theorem lk_nil (x : Int) : lk κ [] x = none := rfl
theorem lk_cons (a : α) (l : List α) (x : Int) : lk κ (a :: l) x = if κ a = x then some a else lk κ l x := by
  unfold lk
  by_cases h : κ a = x
  · simp [h]
  · simp [h]
theorem lk_mem {l : List α} {x : Int} {a : α} (h : lk κ l x = some a) : a ∈ l ∧ κ a = x := by
  refine ⟨List.mem_of_find?_eq_some h, ?_⟩
  have := List.find?_some h
  simpa using this
theorem lk_none {l : List α} {x : Int} : lk κ l x = none ↔ x ∉ l.map κ := by
  induction l with
  | nil => simp [lk]
  | cons a l ih =>
    rw [lk_cons, List.map_cons, List.mem_cons]
    by_cases h : κ a = x
    · simp [h]
    · rw [if_neg h, ih]
      constructor
      · rintro h2 (rfl | h3)
        · exact h rfl
        · exact h2 h3
      · intro h2 h3
        exact h2 (.inr h3)
theorem lk_isSome {l : List α} {x : Int} : (lk κ l x).isSome = true ↔ x ∈ l.map κ := by
  cases h : lk κ l x with
  | none => simp; have := lk_none.1 h; simpa using this
  | some a =>
    obtain ⟨h1, rfl⟩ := lk_mem h
    simp
    exact ⟨a, h1, rfl⟩
theorem lk_get {l : List α} (nd : (l.map κ).Nodup) {a : α} (h : a ∈ l) : lk κ l (κ a) = some a := by
  induction l with
  | nil => cases h
  | cons b l ih =>
    rw [lk_cons]
    rw [List.map_cons, List.nodup_cons] at nd
    rcases List.mem_cons.1 h with rfl | h2
    · rw [if_pos rfl]
    · have hm : κ a ∈ l.map κ := List.mem_map.2 ⟨a, h2, rfl⟩
      rw [if_neg (fun e => nd.1 (by rw [e]; exact hm)), ih nd.2 h2]
theorem lk_same {l : List α} (nd : (l.map κ).Nodup) {a b : α} (h : a ∈ l) (h2 : b ∈ l) (e : κ a = κ b) : a = b := by
  have h3 := lk_get nd h
  rw [e, lk_get nd h2] at h3
  exact (Option.some.inj h3).symm
theorem lk_snoc (l : List α) (a : α) (x : Int) (ha : κ a ∉ l.map κ) : lk κ (l ++ [a]) x = if x = κ a then some a else lk κ l x := by
  induction l with
  | nil => rw [List.nil_append, lk_cons, lk_nil]; by_cases h : κ a = x; · rw [if_pos h, if_pos h.symm]
           · rw [if_neg h, if_neg (fun e => h e.symm)]
  | cons b l ih =>
    rw [List.map_cons, List.mem_cons, not_or] at ha
    rw [List.cons_append, lk_cons, lk_cons, ih ha.2]
    by_cases h : κ b = x
    · rw [if_pos h, if_pos h, if_neg (fun e => ha.1 (e.symm.trans h.symm))]
    · rw [if_neg h, if_neg h]
/-- Without a key. -/
def rm (κ : α → Int) (l : List α) (x : Int) : List α := l.filter (fun a => decide (κ a ≠ x))
theorem rm_mem {l : List α} {x : Int} {a : α} : a ∈ rm κ l x ↔ a ∈ l ∧ κ a ≠ x := by simp [rm]
theorem lk_rm (l : List α) (x y : Int) : lk κ (rm κ l y) x = if x = y then none else lk κ l x := by
  by_cases h : x = y
  · rw [if_pos h, lk_none]
    intro h2
    obtain ⟨a, h3, rfl⟩ := List.mem_map.1 h2
    exact (rm_mem.1 h3).2 h
  · rw [if_neg h]
    induction l with
    | nil => rfl
    | cons b l ih =>
      unfold rm at ih ⊢
      rw [List.filter_cons, lk_cons]
      by_cases h2 : κ b = y
      · rw [if_neg (by simp [h2]), ih, if_neg (fun e => h (e.symm.trans h2))]
      · rw [if_pos (by simp [h2]), lk_cons, ih]
theorem rm_nd {κ2 : α → Int} {l : List α} (nd : (l.map κ2).Nodup) (x : Int) : ((rm κ l x).map κ2).Nodup := List.Nodup.sublist (List.Sublist.map _ (List.filter_sublist)) nd
theorem rm_len {l : List α} (nd : (l.map κ).Nodup) {x : Int} (h : x ∈ l.map κ) : (rm κ l x).length + 1 = l.length := by
  induction l with
  | nil => cases h
  | cons b l ih =>
    rw [List.map_cons, List.nodup_cons] at nd
    unfold rm at ih ⊢
    rw [List.filter_cons]
    by_cases h2 : κ b = x
    · rw [if_neg (by simp [h2])]
      have e : l.filter (fun a => decide (κ a ≠ x)) = l := by
        rw [List.filter_eq_self]
        intro a ha
        simp
        intro e
        exact nd.1 (h2 ▸ e ▸ List.mem_map.2 ⟨a, ha, rfl⟩)
      rw [e]; rfl
    · rw [if_pos (by simp [h2])]
      rw [List.map_cons, List.mem_cons] at h
      rcases h with h | h
      · exact absurd h.symm h2
      · simp only [List.length_cons]
        rw [ih nd.2 h]
theorem rm_no {l : List α} {x : Int} (h : x ∉ l.map κ) : rm κ l x = l := by
  unfold rm
  rw [List.filter_eq_self]
  intro a ha
  simp
  intro e
  exact h (e ▸ List.mem_map.2 ⟨a, ha, rfl⟩)
theorem lk_map {f : α → α} (hf : ∀ a, κ (f a) = κ a) (l : List α) (x : Int) : lk κ (l.map f) x = (lk κ l x).map f := by
  induction l with
  | nil => rfl
  | cons b l ih =>
    rw [List.map_cons, lk_cons, lk_cons, hf, ih]
    by_cases h : κ b = x
    · rw [if_pos h, if_pos h]; rfl
    · rw [if_neg h, if_neg h]
/-- A row of distinct numbers among another's is not longer. -/
theorem nd_len : ∀ {A B : List Int}, A.Nodup → (∀ x ∈ A, x ∈ B) → A.length ≤ B.length
  | [], _, _, _ => Nat.zero_le _
  | a :: A, B, h, hs => by
    have h2 := List.nodup_cons.1 h
    have h3 := hs a (List.mem_cons_self)
    have h4 : A.length ≤ (B.erase a).length := nd_len h2.2 (fun x hx => (List.mem_erase_of_ne (fun e : x = a => h2.1 (by rw [← e]; exact hx))).2 (hs x (List.mem_cons_of_mem _ hx)))
    rw [List.length_erase_of_mem h3] at h4
    have := List.length_pos_of_mem h3
    simp only [List.length_cons]
    omega
end
end Go.Proofs.Ytfkebbkfmchnaaa.Lst
namespace Go.Proofs.Ytfkebbkfmchnaaa.Bk
/-- A job that is open; a lease. -/
structure Jb where
  id : Int
  cls : Int
  st : Int
  us : Int
structure Gr where
  n : Int
  j : Int
  u : Int
abbrev jid (x : Jb) : Int := x.id
abbrev gno (x : Gr) : Int := x.n
abbrev gjo (x : Gr) : Int := x.j
end Go.Proofs.Ytfkebbkfmchnaaa.Bk

set_option linter.unusedVariables false
namespace Go.Proofs.Ytfkebbkfmchnaaa.Mq
open Go.RowKit Go.Maps Go.Proofs.Ytfkebbkfmchnaaa.PBase Go.Proofs.Ytfkebbkfmchnaaa.Ln Go.Proofs.YtfkebbkfmchnaaaW.PrintWords Go.Proofs.YtfkebbkfmchnaaaW.PrintLast Go.Proofs.YtfkebbkfmchnaaaW.PrintMore
theorem law3 : Keyed Try.prog 3 := int_keyed Try.underlying3
/-- How elements lie in a map. -/
structure El (α : Type) where
  val : α → Value
  dat : α → DataW Unit
  rd : Value → Option (DataW Unit × List MemPlace)
  z : α
  mk1 : ∀ x, rd (val x) = some (dat x, [])
  inv : ∀ v d ps, rd v = some (d, ps) → ∃ x, v = val x ∧ d = dat x
  inj : ∀ x y, dat x = dat y → x = y
structure EK {α : Type} (E : El α) (e t : TypeId) : Prop where
  mp : Try.prog.underlying t = some (.map 3 e)
  z : ∀ w, (zeroValue e).run Try.prog w = .ok (E.val E.z) w
/-- Numbers. -/
def eInt : El Int where
  val := fun a => .int .i64 a
  dat := fun a => .lit (.int .i64 a)
  rd := fun v => match v with
    | .int .i64 a => some (.lit (.int .i64 a), [])
    | _ => none
  z := 0
  mk1 := fun x => rfl
  inv := fun v d ps h => by
    split at h
    · cases h; exact ⟨_, rfl, rfl⟩
    · cases h
  inj := fun x y h => by injection h with h; injection h
/-- Block m is a map that reads as f; c entries. -/
def MI {α : Type} (E : El α) (w : World) (m : Nat) (f : Int → Option α) (c : Nat) : Prop :=
  ∃ (n : Nat) (D : DataW Unit), w.ownsMap Try.prog 3 E.rd m n D ∧ (∀ x : Int, Maps.has D (.int .i64 x) = (f x).isSome) ∧ (∀ x y, f x = some y → ∀ z, D.atKey (.int .i64 x) z = E.dat y) ∧ Maps.size D = c
def upd {α : Type} (f : Int → Option α) (x : Int) (y : Option α) : Int → Option α := fun z => if z = x then y else f z
theorem upd_same {α : Type} (f : Int → Option α) (x : Int) (y : Option α) : upd f x y x = y := if_pos rfl
theorem upd_other {α : Type} {f : Int → Option α} {x : Int} {y : Option α} {z : Int} (h : z ≠ x) : upd f x y z = f z := if_neg h
theorem keyX {x : Int} (hx : (Lit.int .i64 x).wf = true) : keyOf Try.prog 3 (.int .i64 x) = some (.int .i64 x) := keyOf_int_mk Try.underlying3 hx
theorem ne_lit {x y : Int} (h : x ≠ y) : (Lit.int .i64 x) ≠ Lit.int .i64 y := fun e => h (by injection e)
section
variable {α : Type} {E : El α} {e t : TypeId} {w w' : World} {m c : Nat} {f : Int → Option α}
theorem MI.lt (h : MI E w m f c) : m < w.heap.size := by
  obtain ⟨n, D, h1, _⟩ := h
  exact h1.lt
theorem MI.blk (h : MI E w m f c) : ∃ es ck, w.heap[m]? = some (.map es ck) := by
  obtain ⟨n, D, ⟨es, ck, h1, _⟩, _⟩ := h
  exact ⟨es, ck, h1⟩
theorem MI.keep (h : MI E w m f c) (hb : w'.heap[m]? = w.heap[m]?) : MI E w' m f c := by
  obtain ⟨n, D, ⟨es, ck, h1, h2⟩, h3⟩ := h
  exact ⟨n, D, ⟨es, ck, hb.trans h1, h2⟩, h3⟩
theorem MI.fr {F : Nat → Prop} (h : MI E w m f c) (hf : Fr F w w') (hm : ¬ F m) : MI E w' m f c := h.keep (hf.blk m h.lt hm)
theorem MI.congr {g : Int → Option α} (h : MI E w m f c) (hg : ∀ x, f x = g x) : MI E w m g c := by
  rw [← show f = g from funext hg]
  exact h
theorem MI.made (E : El α) (w : World) : MI E (w.alloc (.map #[] 0)) w.heap.size (fun _ => none) 0 :=
  ⟨0, .map [], World.ownsMap_made _ _ _ _, fun x => rfl, fun x y h => (by cases h), rfl⟩
theorem MI.value (K : EK E e t) (h : MI E w m f c) {x : Int} (hx : (Lit.int .i64 x).wf = true) {n : Nat} {D : DataW Unit} (h1 : w.ownsMap Try.prog 3 E.rd m n D) (h2 : ∀ x : Int, Maps.has D (.int .i64 x) = (f x).isSome) (h3 : ∀ x y, f x = some y → ∀ z, D.atKey (.int .i64 x) z = E.dat y) {v : Value} {ps : List MemPlace} (hv : E.rd v = some (D.atKey (.int .i64 x) (E.dat E.z), ps)) : v = E.val ((f x).getD E.z) := by
  obtain ⟨a, rfl, hz⟩ := E.inv _ _ _ hv
  cases hf : f x with
  | none =>
    have hh := h2 x
    rw [hf] at hh
    rw [Maps.atKey_of_not_has hh] at hz
    rw [E.inj _ _ hz]
    rfl
  | some y =>
    rw [h3 x y hf] at hz
    rw [E.inj _ _ hz]
    rfl
theorem MI.look (K : EK E e t) (h : MI E w m f c) {x : Int} (hx : (Lit.int .i64 x).wf = true) (N : Nat) : (Instr.lookup t (.map (some m)) (.int .i64 x) true).run Try.prog (w.drewN N) = .ok (.tuple #[E.val ((f x).getD E.z), .bool (f x).isSome]) (w.drewN N) := by
  have h' : MI E (w.drewN N) m f c := h.keep rfl
  obtain ⟨n, D, h1, h2, h3, _⟩ := id h'
  obtain ⟨v, ps, hrun, hv⟩ := h1.look_ok law3 K.mp (K.z _) (E.mk1 E.z) (keyX hx)
  rw [hrun, h2 x, MI.value K h' hx h1 h2 h3 hv]
theorem MI.look1 (K : EK E e t) (h : MI E w m f c) {x : Int} (hx : (Lit.int .i64 x).wf = true) (N : Nat) : (Instr.lookup t (.map (some m)) (.int .i64 x) false).run Try.prog (w.drewN N) = .ok (E.val ((f x).getD E.z)) (w.drewN N) := by
  have h' : MI E (w.drewN N) m f c := h.keep rfl
  obtain ⟨n, D, h1, h2, h3, _⟩ := id h'
  obtain ⟨v, ps, hrun, hv⟩ := h1.lookup law3 K.mp (K.z _) (E.mk1 E.z) (keyX hx)
  rw [hrun, MI.value K h' hx h1 h2 h3 hv]
theorem MI.len (K : EK E e t) (h : MI E w m f c) (ty : TypeId) : (Builtin.len_ #[t] ty #[.map (some m)]).run Try.prog w = .ok (.int .i64 c) w := by
  obtain ⟨n, D, h1, _, _, h4⟩ := h
  rw [h1.len K.mp ty, h4]
theorem MI.store (K : EK E e t) (h : MI E w m f c) (hc : c < maxLen) {x : Int} (y : α) (hx : (Lit.int .i64 x).wf = true) :
    ∃ w', (Instr.mapUpdate t (.map (some m)) (.int .i64 x) (E.val y)).run Try.prog w = .ok () w' ∧ MI E w' m (upd f x (some y)) (if (f x).isSome = true then c else c + 1) ∧ w.mapTurned w' m := by
  obtain ⟨n, D, h1, h2, h3, h4⟩ := h
  have ht := h1.tidy law3
  have h1' : w.ownsMap Try.prog 3 E.rd m (Maps.size D) D := by
    obtain ⟨es, ck, a1, a2, a3, a4⟩ := h1
    refine ⟨es, ck, a1, a2, ?_, a4⟩
    rw [a4]
    simp [Maps.size, length_sorted]
  obtain ⟨w', hr, ho, hm⟩ := h1'.store law3 K.mp (by rw [h4]; exact hc) (keyX hx) (E.mk1 y)
  refine ⟨w', hr, ⟨_, _, ho, fun z => ?_, fun z u hz d => ?_, ?_⟩, hm⟩
  · by_cases e1 : z = x
    · subst e1
      rw [Maps.has_put_same ht.isMap (show WideAt.IsKeyLit (.int .i64 z) from trivial), upd_same]
      rfl
    · rw [Maps.has_put_other (ne_lit e1), upd_other e1, h2]
  · by_cases e1 : z = x
    · subst e1
      rw [upd_same] at hz
      obtain rfl := Option.some.inj hz
      rw [Maps.atKey_put_same ht.isMap (show WideAt.IsKeyLit (.int .i64 z) from trivial)]
    · rw [upd_other e1] at hz
      rw [Maps.atKey_put_other (ne_lit e1), h3 z u hz]
  · rw [Maps.size_put ht, h2, h4]
theorem MI.drop (K : EK E e t) (h : MI E w m f c) {x : Int} (hx : (Lit.int .i64 x).wf = true) (ty : TypeId) :
    ∃ w', (Builtin.delete_ #[t, 3] ty #[.map (some m), .int .i64 x]).run Try.prog w = .ok (.tuple #[]) w' ∧ MI E w' m (upd f x none) (if (f x).isSome = true then c - 1 else c) ∧ w.mapTurned w' m := by
  obtain ⟨n, D, h1, h2, h3, h4⟩ := h
  have ht := h1.tidy law3
  obtain ⟨w', hr, ho, hm⟩ := h1.drop law3 K.mp (keyX hx) ty
  refine ⟨w', hr, ⟨_, _, ho, fun z => ?_, fun z u hz d => ?_, ?_⟩, hm⟩
  · by_cases e1 : z = x
    · subst e1
      rw [Maps.has_del_same, upd_same]
      rfl
    · rw [Maps.has_del_other (ne_lit e1), upd_other e1, h2]
  · by_cases e1 : z = x
    · subst e1
      rw [upd_same] at hz
      cases hz
    · rw [upd_other e1] at hz
      rw [Maps.atKey_del_other (ne_lit e1), h3 z u hz]
  · have := Maps.size_del (k := .int .i64 x) ht
    rw [h2, h4] at this
    split <;> rename_i e1
    · rw [if_pos e1] at this; omega
    · rw [if_neg e1] at this; omega
theorem Fr.of_turned (h : w.mapTurned w' m) : Fr (fun k => k = m) w w' := Fr.of_grown h.grown (fun k e => (Option.some.inj e).symm)
end
end Go.Proofs.Ytfkebbkfmchnaaa.Mq

set_option linter.unusedVariables false
namespace Go.Proofs.Ytfkebbkfmchnaaa.Bk
open Go.RowKit Go.Maps Go.Proofs.Ytfkebbkfmchnaaa.PBase Go.Proofs.Ytfkebbkfmchnaaa.Cat Go.Proofs.Ytfkebbkfmchnaaa.Ln Go.Proofs.Ytfkebbkfmchnaaa.Lst Go.Proofs.Ytfkebbkfmchnaaa.Mq Go.Proofs.YtfkebbkfmchnaaaW.PrintWords Go.Proofs.YtfkebbkfmchnaaaW.PrintLast Go.Proofs.YtfkebbkfmchnaaaW.PrintMore
/-- Leases in a map. -/
def eGr : El Gr where
  val := fun g => .agg #[.int .i64 g.n, .int .i64 g.j, .int .u64 g.u]
  dat := fun g => .agg [.lit (.int .i64 g.n), .lit (.int .i64 g.j), .lit (.int .u64 g.u)]
  rd := fun v => match v with
    | .agg ⟨[.int .i64 n, .int .i64 j, .int .u64 u]⟩ => some (.agg [.lit (.int .i64 n), .lit (.int .i64 j), .lit (.int .u64 u)], [])
    | _ => none
  z := ⟨0, 0, 0⟩
  mk1 := fun x => rfl
  inv := fun v d ps h => by
    split at h
    · cases h; exact ⟨⟨_, _, _⟩, rfl, rfl⟩
    · cases h
  inj := fun x y h => by
    obtain ⟨a, b, c⟩ := x
    obtain ⟨a2, b2, c2⟩ := y
    simp only [DataW.agg.injEq, List.cons.injEq, DataW.lit.injEq, Lit.int.injEq, true_and, and_true] at h
    obtain ⟨h1, h2, h3⟩ := h
    rw [h1, h2, h3]
theorem ekGr : EK eGr 85 112 := ⟨Try.underlying112, fun w => by kernel_rfl⟩
theorem ekInt : EK eInt 3 49 := ⟨Try.underlying49, fun w => by kernel_rfl⟩
/-- A pointer to a block. -/
abbrev ptr (k : Nat) : Value := .pointer (some ⟨k, 0, none⟩)
/-- A table's blocks. -/
def TF (T ma mo : Nat) (k : Nat) : Prop := k = T ∨ k = ma ∨ k = mo
/-- A table in memory. -/
structure TB (W : World) (T ma mo : Nat) (last : Int) (Ls : List Gr) : Prop where
  t : W.heap[T]? = some (.cells #[.int .i64 last, .map (some ma), .map (some mo)] 114 (0, 0))
  a : MI eGr W ma (lk gno Ls) Ls.length
  o : MI eInt W mo (fun x => (lk gjo Ls x).map gno) Ls.length
  ne : ma ≠ mo
theorem fr_trans {F : Nat → Prop} {W W1 W2 : World} (h : Fr F W W1) (k : Fr F W1 W2) : Fr F W W2 := Fr.then_ h k (fun _ h => .inl h)
theorem fr_weak {F F2 : Nat → Prop} {W W1 : World} (h : Fr F W W1) (hF : ∀ k, F k → F2 k) : Fr F2 W W1 := ⟨h.os, h.tape, h.out, h.size, fun k hk hn => h.blk k hk (fun e => hn (hF k e))⟩
theorem fr_drew {F : Nat → Prop} (W : World) : Fr F W W.drew := ⟨rfl, rfl, rfl, Nat.le_refl _, fun _ _ _ => rfl⟩
theorem fr_set (W : World) (g j : Nat) (u : Value) : Fr (fun k => k = g) W (W.setCell ⟨g, j, none⟩ u) := ⟨rfl, rfl, rfl, by simp [World.setCell], fun k _ hn => Below.heap_setCell W ⟨g, j, none⟩ u k hn⟩
section
variable {W W' : World} {T ma mo : Nat} {last : Int} {Ls : List Gr}
theorem blk_ne {a b : Nat} {es ck cs t p} (h : W.heap[a]? = some (.map es ck)) (h2 : W.heap[b]? = some (.cells cs t p)) : a ≠ b := by
  rintro rfl
  rw [h] at h2
  cases h2
theorem TB.nea (h : TB W T ma mo last Ls) : ma ≠ T := by
  obtain ⟨es, ck, h1⟩ := h.a.blk
  exact blk_ne h1 h.t
theorem TB.neo (h : TB W T ma mo last Ls) : mo ≠ T := by
  obtain ⟨es, ck, h1⟩ := h.o.blk
  exact blk_ne h1 h.t
theorem TB.lt (h : TB W T ma mo last Ls) : T < W.heap.size := (Array.getElem?_eq_some_iff.1 h.t).1
theorem TB.fr {F : Nat → Prop} (h : TB W T ma mo last Ls) (hf : Fr F W W') (hd : ∀ k, TF T ma mo k → ¬ F k) : TB W' T ma mo last Ls :=
  ⟨(hf.blk T h.lt (hd T (.inl rfl))).trans h.t, h.a.fr hf (hd ma (.inr (.inl rfl))), h.o.fr hf (hd mo (.inr (.inr rfl))), h.ne⟩
theorem TB.step (h : TB W T ma mo last Ls) (hb : Below W.heap.size W W') : TB W' T ma mo last Ls := h.fr (F := fun _ => False) (Fr.of_below hb) (fun _ _ h => h)
theorem TB.cell (h : TB W T ma mo last Ls) (i : Nat) : W.cell? ⟨T, i, none⟩ = (#[.int .i64 last, .map (some ma), .map (some mo)] : Array Value)[i]? := cell_of_row W T i _ 114 (0, 0) h.t
theorem TB.c0 (h : TB W T ma mo last Ls) : W.cell? ⟨T, 0, none⟩ = some (.int .i64 last) := h.cell 0
theorem TB.c1 (h : TB W T ma mo last Ls) : W.cell? ⟨T, 1, none⟩ = some (.map (some ma)) := h.cell 1
theorem TB.c2 (h : TB W T ma mo last Ls) : W.cell? ⟨T, 2, none⟩ = some (.map (some mo)) := h.cell 2
set_option maxHeartbeats 4000000 in
set_option maxRecDepth 100000 in
theorem tnew_calls (W : World) : Calls Try.prog 34 #[] W fun e w' => ∃ T ma mo, e = .returned (ptr T) ∧ Below W.heap.size W w' ∧ TB w' T ma mo 0 [] ∧ ∀ k, TF T ma mo k → W.heap.size ≤ k ∧ k < w'.heap.size := by
  have hmm := @run_makeMap Try.prog
  go_enter Try.func34, Try.ntmps34
  go_wp2
  go_ret
  have hs1 : (W.alloc (.map #[] 0)).heap.size = W.heap.size + 1 := by simp
  have hs2 : ((W.alloc (.map #[] 0)).alloc (.map #[] 0)).heap.size = W.heap.size + 1 + 1 := by simp
  have hk := blk_new ((W.alloc (.map #[] 0)).alloc (.map #[] 0)) (.cells #[.int .i64 0, .map (some W.heap.size), .map (some (W.heap.size + 1))] 114)
  rw [hs2] at hk
  have hb3 := below_alloc (Below.refl ((W.alloc (.map #[] 0)).alloc (.map #[] 0)).heap.size _) (.cells #[.int .i64 0, .map (some W.heap.size), .map (some (W.heap.size + 1))] 114)
  have hm2 := MI.made eInt (W.alloc (.map #[] 0))
  rw [hs1] at hm2
  refine ⟨W.heap.size + 1 + 1, W.heap.size, W.heap.size + 1, rfl, below_alloc (below_alloc (below_alloc (Below.refl _ _) _) _) _, ⟨hk, ?_, ?_, ?_⟩, ?_⟩
  · exact (((MI.made eGr W).fr (F := fun _ => False) (Fr.of_below (below_alloc (Below.refl _ _) _)) (fun h => h)).fr (F := fun _ => False) (Fr.of_below hb3) (fun h => h)).congr (fun _ => rfl)
  · exact (hm2.fr (F := fun _ => False) (Fr.of_below hb3) (fun h => h)).congr (fun _ => rfl)
  · omega
  · rintro k (rfl | rfl | rfl) <;> simp <;> omega
theorem look_ret {Q : Ending → World → Prop} {tmps : Array Value} {W : World} {x : Gr} {b : Bool} {g : Nat} (hg : tmps.getD 4 undef = ptr g) (he : tmps.getD 5 undef = .bool b) (hb : W.heap[g]? = some (.cells #[.int .i64 x.n, .int .i64 x.j, .int .u64 x.u] 85 (0, 0))) (hQ : Q (.returned (.tuple #[.agg #[.int .i64 x.n, .int .i64 x.j, .int .u64 x.u], .bool b])) W) : bodyPost Try.prog Try.f42 Q Exit.ret { tmps := tmps, defers := [] } W :=
  bodyPost_ret (v := .tuple #[.agg #[.int .i64 x.n, .int .i64 x.j, .int .u64 x.u], .bool b]) (by rw [← he]; exact results_ct (fn := Try.f42) rfl tmps W g 85 _ (0, 0) _ hg hb Try.underlying85 rfl (by kernel_rfl)) rfl hQ
set_option maxHeartbeats 4000000 in
set_option maxRecDepth 100000 in
theorem look_calls (h : TB W T ma mo last Ls) (n : Int) (hn : (Lit.int .i64 n).wf = true) (g : Gr) (hg : (lk gno Ls n).getD eGr.z = g) (b : Bool) (hb : (lk gno Ls n).isSome = b) :
    Calls Try.prog 42 #[ptr T, .int .i64 n] W fun e w' => e = .returned (.tuple #[.agg #[.int .i64 g.n, .int .i64 g.j, .int .u64 g.u], .bool b]) ∧ Below W.heap.size W w' := by
  have hb1 : Below W.heap.size W (W.alloc (.cells #[.int .i64 0, .int .i64 0, .int .u64 0] 85)) := below_alloc (Below.refl _ _) _
  have h1 := h.step hb1
  have c1 := h1.c1
  have hlook := h1.a.look ekGr hn 0
  rw [hg, hb] at hlook
  replace hlook : (Instr.lookup 112 (.map (some ma)) (.int .i64 n) true).run Try.prog (W.alloc (.cells #[.int .i64 0, .int .i64 0, .int .u64 0] 85)) = .ok (.tuple #[.agg #[.int .i64 g.n, .int .i64 g.j, .int .u64 g.u], .bool b]) (W.alloc (.cells #[.int .i64 0, .int .i64 0, .int .u64 0] 85)) := hlook
  clear h h1 hb1 hg hb
  go_enter Try.func42, Try.ntmps42
  go_wp2
  exact look_ret (x := g) (g := W.heap.size) rfl rfl (blk_below (blk_new _ _) (below_alloc (Below.refl _ _) _)) ⟨rfl, below_alloc (below_alloc (Below.refl _ _) _) _⟩
set_option maxHeartbeats 4000000 in
set_option maxRecDepth 100000 in
theorem of_calls (h : TB W T ma mo last Ls) (j : Int) (hj : (Lit.int .i64 j).wf = true) (r : Option Int) (hr : (lk gjo Ls j).map gno = r) :
    Calls Try.prog 40 #[ptr T, .int .i64 j] W fun e w' => e = .returned (.tuple #[.int .i64 (r.getD 0), .bool r.isSome]) ∧ Below W.heap.size W w' := by
  have c2 := h.c2
  have hlook := h.o.look ekInt hj 0
  rw [hr] at hlook
  replace hlook : (Instr.lookup 49 (.map (some mo)) (.int .i64 j) true).run Try.prog W = .ok (.tuple #[.int .i64 (r.getD 0), .bool r.isSome]) W := hlook
  clear h hr
  generalize r.getD 0 = q at hlook ⊢
  generalize r.isSome = b at hlook ⊢
  go_enter Try.func40, Try.ntmps40
  go_wp2
  go_ret2
  exact ⟨rfl, Below.refl _ _⟩
set_option maxHeartbeats 4000000 in
set_option maxRecDepth 100000 in
theorem grant_calls (h : TB W T ma mo last Ls) (j u : Int) (hj : (Lit.int .i64 j).wf = true) (hnew : j ∉ Ls.map gjo) (l1 : Int) (hl1 : last + 1 = l1) (hnn : l1 ∉ Ls.map gno) (hlast : 0 ≤ last ∧ last ≤ 1000000) (hlen : Ls.length ≤ 1000000) :
    Calls Try.prog 38 #[ptr T, .int .i64 j, .int .u64 u] W fun e w' => e = .returned (.tuple #[.int .i64 l1, .int .i64 0]) ∧ Aside0 (TB w' T ma mo l1 (Ls ++ [⟨l1, j, u⟩]) ∧ Fr (TF T ma mo) W w') := by
  have c2 := h.c2
  have c0 := h.c0
  have hw1 : (Lit.int .i64 l1).wf = true := Go.WalkArith.wf_i64 (by omega)
  have hlk : lk gjo Ls j = none := lk_none.2 hnew
  have hlook := h.o.look ekInt hj 0
  rw [hlk] at hlook
  replace hlook : (Instr.lookup 49 (.map (some mo)) (.int .i64 j) true).run Try.prog W = .ok (.tuple #[.int .i64 0, .bool false]) W := hlook
  have hadd : IntKind.i64.wrap (last + 1) = l1 := by rw [hl1]; rw [i64_w]; unfold wrap64; omega
  have hH := Aside0.mk h
  have H1 := Aside0.mk (And.intro hnn (And.intro hlast hlen))
  clear h hnew hnn hlast hlen
  have hD := True.intro
  obtain ⟨W1, hW1⟩ : ∃ W1, W.setCell ⟨T, 0, none⟩ (.int .i64 l1) = W1 := ⟨_, rfl⟩
  have hF1 : Fr (fun k => k = T) W W1 := by rw [← hW1]; exact fr_set W T 0 _
  have ht1 : W1.heap[T]? = some (.cells #[.int .i64 l1, .map (some ma), .map (some mo)] 114 (0, 0)) := by
    rw [← hW1]
    exact blk_set hH.out.t 0 _
  have hlen : Ls.length < maxLen := by have := H1.out.2.2; unfold maxLen; omega
  have hA1 : MI eGr W1 ma (lk gno Ls) Ls.length := hH.out.a.fr hF1 (fun e => hH.out.nea e)
  have hO1 : MI eInt W1 mo (fun x => (lk gjo Ls x).map gno) Ls.length := hH.out.o.fr hF1 (fun e => hH.out.neo e)
  obtain ⟨w2, hrun2, hM2, ht2⟩ := (hA1.fr (F := fun _ => False) (fr_drew W1) (fun h => h)).store ekGr hlen ⟨l1, j, u⟩ hw1
  replace hrun2 : (Instr.mapUpdate 112 (.map (some ma)) (.int .i64 l1) (.agg #[.int .i64 l1, .int .i64 j, .int .u64 u])).run Try.prog W1.drew = .ok () w2 := hrun2
  have hF2 : Fr (fun k => k = ma) W1 w2 := fr_trans (fr_drew W1) (Fr.of_turned ht2)
  have hO2 : MI eInt w2 mo (fun x => (lk gjo Ls x).map gno) Ls.length := hO1.fr hF2 (fun e => hH.out.ne e.symm)
  obtain ⟨w3, hrun3, hM3, ht3⟩ := (hO2.fr (F := fun _ => False) (fr_drew w2) (fun h => h)).store ekInt hlen l1 hj
  replace hrun3 : (Instr.mapUpdate 49 (.map (some mo)) (.int .i64 j) (.int .i64 l1)).run Try.prog w2.drew = .ok () w3 := hrun3
  have hF3 : Fr (fun k => k = mo) w2 w3 := fr_trans (fr_drew w2) (Fr.of_turned ht3)
  have ht2' : w2.heap[T]? = _ := (hF2.blk T (Array.getElem?_eq_some_iff.1 ht1).1 (fun e => hH.out.nea e.symm)).trans ht1
  have ht3' : w3.heap[T]? = _ := (hF3.blk T (Array.getElem?_eq_some_iff.1 ht2').1 (fun e => hH.out.neo e.symm)).trans ht2'
  have kp1 : Aside0 (∀ w', Fr (fun k => k = ma) W1 w' → w'.cell? ⟨T, 1, none⟩ = some (.map (some ma)) ∧ w'.cell? ⟨T, 0, none⟩ = some (.int .i64 l1)) := ⟨fun w' hf => ⟨hf.cell (cell_of_row W1 T 1 _ 114 (0, 0) ht1) (fun e => hH.out.nea e.symm), hf.cell (cell_of_row W1 T 0 _ 114 (0, 0) ht1) (fun e => hH.out.nea e.symm)⟩⟩
  have kp2 : Aside0 (∀ w', Fr (fun k => k = mo) w2 w' → w'.cell? ⟨T, 2, none⟩ = some (.map (some mo)) ∧ w'.cell? ⟨T, 0, none⟩ = some (.int .i64 l1)) := ⟨fun w' hf => ⟨hf.cell (cell_of_row w2 T 2 _ 114 (0, 0) ht2') (fun e => hH.out.neo e.symm), hf.cell (cell_of_row w2 T 0 _ 114 (0, 0) ht2') (fun e => hH.out.neo e.symm)⟩⟩
  have hF2 := Aside0.mk hF2
  have hF3 := Aside0.mk hF3
  have hG : Aside0 (TB w3 T ma mo l1 (Ls ++ [⟨l1, j, u⟩]) ∧ Fr (TF T ma mo) W w3) := by
    refine ⟨⟨ht3', ?_, ?_, hH.out.ne⟩, fr_trans (fr_weak hF1 (fun k e => .inl e)) (fr_trans (fr_weak hF2.out (fun k e => .inr (.inl e))) (fr_weak hF3.out (fun k e => .inr (.inr e))))⟩
    · have e0 : lk gno Ls l1 = none := lk_none.2 H1.out.1
      rw [e0, if_neg (by simp)] at hM2
      rw [List.length_append, List.length_singleton]
      refine (hM2.fr hF3.out (fun e => hH.out.ne e)).congr (fun x => ?_)
      rw [lk_snoc _ _ _ H1.out.1]
      unfold upd
      rfl
    · have e0 : ((lk gjo Ls j).map gno) = none := by rw [hlk]; rfl
      rw [e0, if_neg (by simp)] at hM3
      rw [List.length_append, List.length_singleton]
      refine hM3.congr (fun x => ?_)
      rw [lk_snoc _ _ _ (by show j ∉ _; rw [← lk_none]; exact hlk)]
      unfold upd
      by_cases e : x = j
      · rw [if_pos e, if_pos (show x = gjo ⟨l1, j, u⟩ from e)]; rfl
      · rw [if_neg e, if_neg (show ¬ x = gjo ⟨l1, j, u⟩ from e)]
  have c3 : w3.cell? ⟨T, 0, none⟩ = some (.int .i64 l1) := cell_of_row w3 T 0 _ 114 (0, 0) ht3'
  have hfz := blk_frozen hH.out.t 0
  clear hF1 ht1 hA1 hO1 hM2 ht2 hO2 hM3 ht3 ht2' ht3' hlen hlk hw1 hl1 hD
  go_enter Try.func38, Try.ntmps38
  go_upto_region 7 with (fail)
  clear hW1 c0 c2 hlook hadd
  go_region_held3 (fun w' => w'.cell? ⟨T, 1, none⟩ = some (.map (some ma)) ∧ w'.cell? ⟨T, 0, none⟩ = some (.int .i64 l1)) (first | exact kp1.out _ (fr_drew _) | exact kp1.out _ hF2.out) (fail)
  go_upto_region 8 with (fail)
  go_region_held3 (fun w' => w'.cell? ⟨T, 2, none⟩ = some (.map (some mo)) ∧ w'.cell? ⟨T, 0, none⟩ = some (.int .i64 l1)) (first | exact kp2.out _ (fr_drew _) | exact kp2.out _ hF3.out) (fail)
  go_wp2
  go_ret2
  exact ⟨rfl, hG⟩
/-- What Drop leaves. -/
theorem rm_eq (h1 : (Ls.map gno).Nodup) (h2 : (Ls.map gjo).Nodup) {g : Gr} (hg : g ∈ Ls) : rm gno Ls g.n = rm gjo Ls g.j := by
  unfold rm
  apply List.filter_congr
  intro b hb
  have : gno b = g.n ↔ gjo b = g.j := ⟨fun h => by rw [lk_same (κ := gno) h1 hb hg h], fun h => by rw [lk_same (κ := gjo) h2 hb hg h]⟩
  simp [this]
set_option maxHeartbeats 4000000 in
set_option maxRecDepth 100000 in
theorem drop_no_calls (h : TB W T ma mo last Ls) (n : Int) (hn : (Lit.int .i64 n).wf = true) (hg : lk gno Ls n = none) :
    Calls Try.prog 39 #[ptr T, .int .i64 n] W fun e w' => e = .returned (.tuple #[.int .i64 0, .bool false]) ∧ Below W.heap.size W w' := by
  have hT := look_calls h n hn ⟨0, 0, 0⟩ (by rw [hg]; rfl) false (by rw [hg]; rfl)
  clear h hg
  go_enter Try.func39, Try.ntmps39
  go_wp2_with (go_at_call 42; refine hT.mono ?_; rintro e w1 ⟨rfl, hb1⟩)
  go_ret2
  first
    | exact ⟨rfl, below_alloc hb1 _⟩
    | exact ⟨rfl, below_set (below_alloc hb1 _) (by have := hb1.size; simp; omega)⟩
set_option maxHeartbeats 4000000 in
set_option maxRecDepth 100000 in
theorem drop_yes_calls (h : TB W T ma mo last Ls) (h1 : (Ls.map gno).Nodup) (h2 : (Ls.map gjo).Nodup) (n : Int) (hn : (Lit.int .i64 n).wf = true) (g : Gr) (hg : lk gno Ls n = some g) (hj : (Lit.int .i64 g.j).wf = true) :
    Calls Try.prog 39 #[ptr T, .int .i64 n] W fun e w' => e = .returned (.tuple #[.int .i64 g.j, .bool true]) ∧ Aside0 (TB w' T ma mo last (rm gjo Ls g.j) ∧ Fr (TF T ma mo) W w') := by
  have hT := Aside0.mk (look_calls h n hn g (by rw [hg]; rfl) true (by rw [hg]; rfl))
  have hH := Aside0.mk h
  have hK := Aside0.mk (And.intro h1 h2)
  obtain ⟨hgm, hgn⟩ := lk_mem hg
  have hgm := Aside0.mk hgm
  have hgn := Aside0.mk hgn
  have hg := Aside0.mk hg
  clear h h1 h2
  go_enter Try.func39, Try.ntmps39
  go_upto_region 4 with (go_at_call 42; refine hT.out.mono ?_; rintro e w1 ⟨rfl, hb1⟩)
  have hbW := Aside0.mk hb1
  have hsz := Aside0.mk hb1.size
  obtain ⟨w2, hw2⟩ : ∃ w2, w1.alloc (.cells #[.int .i64 n, .int .i64 g.j, .int .u64 g.u] 85) = w2 := ⟨_, rfl⟩
  have hgn2 : g.n = n := hgn.out
  have hb2 : Below w1.heap.size w1 w2 := by rw [← hw2]; exact below_alloc (Below.refl _ _) _
  have hbx : w2.heap[w1.heap.size]? = some (.cells #[.int .i64 n, .int .i64 g.j, .int .u64 g.u] 85 (0, 0)) := by rw [← hw2]; exact blk_new _ _
  have hT1 := hH.out.step hb1
  have hT2 := hT1.step hb2
  obtain ⟨w3, hrun3, hM3, ht3⟩ := hT2.a.drop ekGr hn 0
  have hF3 := Fr.of_turned ht3
  have hO3 := hT2.o.fr hF3 (fun e => hT2.ne e.symm)
  obtain ⟨w4, hrun4, hM4, ht4⟩ := (hO3.fr (F := fun _ => False) (fr_drew w3) (fun h => h)).drop ekInt hj 0
  have hF4 := Fr.of_turned ht4
  have hlt2 : ma < w1.heap.size := hT1.a.lt
  have hlt3 : mo < w1.heap.size := hT1.o.lt
  have ht3T := (hF3.blk T hT2.lt (fun e => hT2.nea e.symm)).trans hT2.t
  have hbx3 := (hF3.blk w1.heap.size (Array.getElem?_eq_some_iff.1 hbx).1 (by show ¬ w1.heap.size = ma; omega)).trans hbx
  have c1 := hT2.c1
  have kp : Aside0 (∀ w', Fr (fun k => k = mo) w3 w' → w'.cell? ⟨T, 2, none⟩ = some (.map (some mo)) ∧ w'.cell? ⟨w1.heap.size, 1, none⟩ = some (.int .i64 g.j)) := ⟨fun w' hf => ⟨hf.cell (cell_of_row w3 T 2 _ 114 (0, 0) ht3T) (fun e => hH.out.neo e.symm), hf.cell (cell_of_row w3 w1.heap.size 1 _ 85 (0, 0) hbx3) (by show ¬ w1.heap.size = mo; omega)⟩⟩
  have c4 : w4.cell? ⟨w1.heap.size, 1, none⟩ = some (.int .i64 g.j) := (kp.out w4 (fr_trans (fr_drew w3) hF4)).2
  have hF34 := Aside0.mk (fr_trans (fr_drew w3) hF4)
  have hG : Aside0 (TB w4 T ma mo last (rm gjo Ls g.j) ∧ Fr (TF T ma mo) W w4) := by
    have hin : n ∈ Ls.map gno := List.mem_map.2 ⟨g, hgm.out, hgn2⟩
    have hjn : g.j ∈ Ls.map gjo := List.mem_map.2 ⟨g, hgm.out, rfl⟩
    have hl : (rm gjo Ls g.j).length = Ls.length - 1 := by have := rm_len hK.out.2 hjn; omega
    have er := rm_eq hK.out.1 hK.out.2 hgm.out
    refine ⟨⟨(hF34.out.blk T (Array.getElem?_eq_some_iff.1 ht3T).1 (fun e => hH.out.neo e.symm)).trans ht3T, ?_, ?_, hH.out.ne⟩, fr_trans (Fr.of_below hb1) (fr_trans (Fr.of_below hb2) (fr_trans (fr_weak hF3 (fun k e => .inr (.inl e))) (fr_weak hF34.out (fun k e => .inr (.inr e)))))⟩
    · rw [lk_isSome.2 hin, if_pos rfl, ← hl] at hM3
      refine (hM3.fr hF34.out (fun e => hH.out.ne e)).congr (fun x => ?_)
      rw [← er, hgn2, lk_rm]
      rfl
    · have e1 : ((lk gjo Ls g.j).map gno).isSome = true := by
        rw [Option.isSome_map]; exact lk_isSome.2 hjn
      rw [e1, if_pos rfl, ← hl] at hM4
      refine hM4.congr (fun x => ?_)
      rw [lk_rm]
      unfold upd
      by_cases e : x = g.j
      · rw [if_pos e, if_pos e]; rfl
      · rw [if_neg e, if_neg e]
  clear hb1 hb2 hbx hT1 hT2 hM3 ht3 hO3 hM4 ht4 hF3 hF4 ht3T hbx3 hlt2 hlt3
  go_upto_region 5 with (fail)
  go_region_held3 (fun w' => w'.cell? ⟨T, 2, none⟩ = some (.map (some mo)) ∧ w'.cell? ⟨w1.heap.size, 1, none⟩ = some (.int .i64 g.j)) (first | exact kp.out _ (fr_drew _) | exact kp.out _ hF34.out) (fail)
  go_wp2
  go_ret2
  exact ⟨rfl, hG⟩
end
end Go.Proofs.Ytfkebbkfmchnaaa.Bk

set_option linter.unusedVariables false
namespace Go.Proofs.Ytfkebbkfmchnaaa.Bk
open Go.RowKit Go.Proofs.Ytfkebbkfmchnaaa.PBase Go.Proofs.Ytfkebbkfmchnaaa.Heap Go.Proofs.Ytfkebbkfmchnaaa.Ln Go.Proofs.Ytfkebbkfmchnaaa.Lst
/-- A book. -/
structure Book where
  ag : Int
  rm : Int
  tr : Int
  ct : Int
  L : List S77
  Js : List Jb
  Ls : List Gr
/-- How a job may stand. -/
def Ok (tr : Int) (j : Jb) : Prop := (0 ≤ j.cls ∧ j.cls < 8) ∧ ((j.st = 1 ∧ 0 ≤ j.us ∧ j.us ≤ tr) ∨ (j.st = 2 ∧ 1 ≤ j.us ∧ j.us ≤ tr + 1) ∨ (j.st = 3 ∧ 1 ≤ j.us ∧ j.us ≤ tr))
structure Inv (b : Book) : Prop where
  ag : 1 ≤ b.ag ∧ b.ag ≤ 1000
  rm : 0 ≤ b.rm ∧ b.rm ≤ 1000
  tr : 0 ≤ b.tr ∧ b.tr ≤ 9
  ct : 0 ≤ b.ct
  st : St b.ag b.L
  nd : (b.Js.map jid).Nodup
  w : ∀ x ∈ b.L, ∃ j ∈ b.Js, j.id = x.f0 ∧ j.cls = x.f1 ∧ j.st = 1
  w2 : ∀ j ∈ b.Js, j.st = 1 → j.id ∈ ids b.L
  ok : ∀ j ∈ b.Js, Ok b.tr j
  wf : ∀ j ∈ b.Js, (Lit.int .i64 j.id).wf = true
  le : (b.Js.length : Int) ≤ b.rm
  gn : (b.Ls.map gno).Nodup
  gj : (b.Ls.map gjo).Nodup
  g : ∀ g ∈ b.Ls, 1 ≤ g.n ∧ g.n ≤ b.ct ∧ ∃ j ∈ b.Js, j.id = g.j ∧ j.st = 2
  g2 : ∀ j ∈ b.Js, j.st = 2 → ∃ g ∈ b.Ls, g.j = j.id
/-- A job stands otherwise. -/
def setJ (l : List Jb) (id s u : Int) : List Jb := l.map (fun j => if j.id = id then ⟨j.id, j.cls, s, u⟩ else j)
theorem setJ_id (l : List Jb) (id s u : Int) : (setJ l id s u).map jid = l.map jid := by
  unfold setJ
  rw [List.map_map]
  apply List.map_congr_left
  intro a _
  show jid (if _ then _ else _) = _
  split <;> rfl
theorem setJ_len (l : List Jb) (id s u : Int) : (setJ l id s u).length = l.length := by simp [setJ]
theorem setJ_mem {l : List Jb} {id s u : Int} {a : Jb} (h : a ∈ setJ l id s u) : (a ∈ l ∧ a.id ≠ id) ∨ ∃ j ∈ l, j.id = id ∧ a = ⟨j.id, j.cls, s, u⟩ := by
  obtain ⟨j, hj, rfl⟩ := List.mem_map.1 h
  by_cases e : j.id = id
  · rw [if_pos e]; exact .inr ⟨j, hj, e, rfl⟩
  · rw [if_neg e]; exact .inl ⟨hj, e⟩
theorem mem_setJ {l : List Jb} {id s u : Int} {j : Jb} (h : j ∈ l) : (if j.id = id then (⟨j.id, j.cls, s, u⟩ : Jb) else j) ∈ setJ l id s u := List.mem_map.2 ⟨j, h, rfl⟩
theorem lk_setJ (l : List Jb) (id s u x : Int) : lk jid (setJ l id s u) x = (lk jid l x).map (fun j => if j.id = id then ⟨j.id, j.cls, s, u⟩ else j) := lk_map (fun a => by show jid (if _ then _ else _) = _; split <;> rfl) l x
def b0 (ag rm tr : Int) : Book := ⟨ag, rm, tr, 0, [], [], []⟩
theorem Inv.b0 {ag rm tr : Int} (h1 : 1 ≤ ag ∧ ag ≤ 1000) (h2 : 0 ≤ rm ∧ rm ≤ 1000) (h3 : 0 ≤ tr ∧ tr ≤ 9) : Inv (b0 ag rm tr) :=
  ⟨h1, h2, h3, Int.le_refl _, St.nil ag, List.nodup_nil, (fun _ h => nomatch h), (fun _ h => nomatch h), (fun _ h => nomatch h), (fun _ h => nomatch h), h2.1, List.nodup_nil, List.nodup_nil, (fun _ h => nomatch h), (fun _ h => nomatch h)⟩
section
variable {b : Book}
/-- Not more wait than are open. -/
theorem Inv.len (h : Inv b) : b.L.length ≤ b.Js.length := by
  have e0 : (b.Js.map jid).length = b.Js.length := by simp
  rw [← ids_len b.L, ← e0]
  refine nd_len h.st.nd (fun x hx => ?_)
  obtain ⟨y, hy, rfl⟩ := List.mem_map.1 hx
  obtain ⟨j, hj, e, _⟩ := h.w y hy
  exact List.mem_map.2 ⟨j, hj, e⟩
theorem Inv.len_lt (h : Inv b) {j : Jb} (hj : j ∈ b.Js) (hs : j.st ≠ 1) : b.L.length < b.Js.length := by
  have e : ((j.id :: ids b.L).length) ≤ (b.Js.map jid).length := by
    refine nd_len (List.nodup_cons.2 ⟨fun hx => ?_, h.st.nd⟩) (fun x hx => ?_)
    · obtain ⟨y, hy, e⟩ := List.mem_map.1 hx
      obtain ⟨k, hk, e2, _, e3⟩ := h.w y hy
      have := lk_same (κ := jid) h.nd hk hj (by show k.id = j.id; rw [e2, e])
      rw [this] at e3
      exact hs e3
    · rcases List.mem_cons.1 hx with rfl | hx
      · exact List.mem_map.2 ⟨j, hj, rfl⟩
      · obtain ⟨y, hy, rfl⟩ := List.mem_map.1 hx
        obtain ⟨k, hk, e, _⟩ := h.w y hy
        exact List.mem_map.2 ⟨k, hk, e⟩
  simp only [List.length_cons, List.length_map, ids_len] at e
  omega
/-! ### Add -/
def addE (b : Book) (id cl : Int) : Int := if ¬ (0 ≤ cl ∧ cl < 8) then 1 else if id ∈ b.Js.map jid then 8 else if b.rm ≤ (b.Js.length : Int) then 10 else 0
def addB (b : Book) (id cl : Int) : Book := { b with Js := b.Js ++ [⟨id, cl, 1, 0⟩], L := pushL b.ag b.L ⟨id, cl, b.ct⟩ }
theorem addE_ok {id cl : Int} (h : addE b id cl = 0) : (0 ≤ cl ∧ cl < 8) ∧ id ∉ b.Js.map jid ∧ (b.Js.length : Int) < b.rm := by
  unfold addE at h
  split at h
  · cases h
  · rename_i h1
    split at h
    · cases h
    · rename_i h2
      split at h
      · cases h
      · exact ⟨Classical.not_not.1 h1, h2, by omega⟩
theorem Inv.not_in (h : Inv b) {id : Int} (hi : id ∉ b.Js.map jid) : id ∉ ids b.L := by
  intro hx
  obtain ⟨y, hy, rfl⟩ := List.mem_map.1 hx
  obtain ⟨j, hj, e, _⟩ := h.w y hy
  exact hi (List.mem_map.2 ⟨j, hj, e⟩)
theorem Inv.add_put (h : Inv b) {id cl : Int} (hE : addE b id cl = 0) : putE b.L b.rm id cl = 0 ∧ putL b.ag b.rm b.ct b.L id cl = pushL b.ag b.L ⟨id, cl, b.ct⟩ := by
  obtain ⟨h1, h2, h3⟩ := addE_ok hE
  have h4 := h.len
  have h5 := put_ok (rm := b.rm) h1 (h.not_in h2) (by omega)
  exact ⟨h5, putL_ok h5⟩
theorem Inv.add (h : Inv b) {id cl : Int} (hE : addE b id cl = 0) (hw : (Lit.int .i64 id).wf = true) : Inv (addB b id cl) := by
  obtain ⟨h1, h2, h3⟩ := addE_ok hE
  obtain ⟨k1, k2⟩ := h.st.push (x := ⟨id, cl, b.ct⟩) (h.not_in h2)
  refine ⟨h.ag, h.rm, h.tr, h.ct, k1, ?_, ?_, ?_, ?_, ?_, ?_, h.gn, h.gj, ?_, ?_⟩
  · show ((b.Js ++ [_]).map jid).Nodup
    rw [List.map_append, List.nodup_append]
    refine ⟨h.nd, by simp, fun x hx y hy => ?_⟩
    simp only [List.map_cons, List.map_nil, List.mem_singleton] at hy
    subst hy
    rintro rfl
    exact h2 hx
  · intro x hx
    rcases List.mem_cons.1 (k2.mem_iff.1 hx) with rfl | hx
    · exact ⟨⟨id, cl, 1, 0⟩, List.mem_append_right _ (List.mem_singleton.2 rfl), rfl, rfl, rfl⟩
    · obtain ⟨j, hj, e⟩ := h.w x hx
      exact ⟨j, List.mem_append_left _ hj, e⟩
  · intro j hj hs
    rw [show (ids (addB b id cl).L) = ids (pushL b.ag b.L ⟨id, cl, b.ct⟩) from rfl, (ids_perm k2).mem_iff]
    rcases List.mem_append.1 hj with hj | hj
    · exact List.mem_cons_of_mem _ (h.w2 j hj hs)
    · rw [List.mem_singleton.1 hj]; exact List.mem_cons_self
  · intro j hj
    rcases List.mem_append.1 hj with hj | hj
    · exact h.ok j hj
    · rw [List.mem_singleton.1 hj]; exact ⟨h1, .inl ⟨rfl, Int.le_refl _, h.tr.1⟩⟩
  · intro j hj
    rcases List.mem_append.1 hj with hj | hj
    · exact h.wf j hj
    · rw [List.mem_singleton.1 hj]; exact hw
  · show ((b.Js ++ [_]).length : Int) ≤ b.rm
    simp
    omega
  · intro g hg
    obtain ⟨e1, e2, j, hj, e3⟩ := h.g g hg
    exact ⟨e1, e2, j, List.mem_append_left _ hj, e3⟩
  · intro j hj hs
    rcases List.mem_append.1 hj with hj | hj
    · exact h.g2 j hj hs
    · rw [List.mem_singleton.1 hj] at hs; cases hs
/-! ### Fetch -/
def fetchJ (b : Book) : S77 := Heap.g z77 b.L 0
def usedOf (b : Book) (id : Int) : Int := ((lk jid b.Js id).map (fun j => j.us)).getD 0
def fetchB (b : Book) (un : Int) : Book := { b with Js := setJ b.Js (fetchJ b).f0 2 (usedOf b (fetchJ b).f0 + 1), L := removeL b.ag b.L 0, ct := b.ct + 1, Ls := b.Ls ++ [⟨b.ct + 1, (fetchJ b).f0, un⟩] }
theorem Inv.first (h : Inv b) (h0 : 0 < b.L.length) : fetchJ b ∈ b.L ∧ ∃ j ∈ b.Js, j.id = (fetchJ b).f0 ∧ j.cls = (fetchJ b).f1 ∧ j.st = 1 ∧ lk jid b.Js (fetchJ b).f0 = some j := by
  have h1 : fetchJ b ∈ b.L := by
    unfold fetchJ
    rw [g_lt z77 h0]
    exact List.getElem_mem h0
  obtain ⟨j, hj, e1, e2, e3⟩ := h.w _ h1
  refine ⟨h1, j, hj, e1, e2, e3, ?_⟩
  rw [← e1]
  exact lk_get h.nd hj
theorem Inv.no_lease (h : Inv b) {j : Jb} (hj : j ∈ b.Js) (hs : j.st ≠ 2) : j.id ∉ b.Ls.map gjo := by
  intro hx
  obtain ⟨g, hg, e⟩ := List.mem_map.1 hx
  obtain ⟨_, _, k, hk, e2, e3⟩ := h.g g hg
  have := lk_same (κ := jid) h.nd hk hj (by show k.id = j.id; rw [e2]; exact e)
  rw [this] at e3
  exact hs e3
theorem Inv.fetch (h : Inv b) (h0 : 0 < b.L.length) (un : Int) : Inv (fetchB b un) := by
  obtain ⟨h1, j, hj, e1, e2, e3, hk⟩ := h.first h0
  obtain ⟨t1, t2, _⟩ := h.st.take h0
  have hu : usedOf b (fetchJ b).f0 = j.us := by unfold usedOf; rw [hk]; rfl
  have hok := h.ok j hj
  have hnl := h.no_lease hj (by omega)
  refine ⟨h.ag, h.rm, h.tr, by have := h.ct; show 0 ≤ b.ct + 1; omega, t1, ?_, ?_, ?_, ?_, ?_, ?_, ?_, ?_, ?_, ?_⟩
  · show ((setJ _ _ _ _).map jid).Nodup
    rw [setJ_id]; exact h.nd
  · intro x hx
    have hx2 : x ∈ b.L := t2.mem_iff.2 (List.mem_cons_of_mem _ hx)
    have hne : x.f0 ≠ (fetchJ b).f0 := fun e => by
      have := (ids_perm t2).nodup_iff.1 h.st.nd
      refine (List.nodup_cons.1 this).1 ?_
      show (fetchJ b).f0 ∈ _
      rw [← e]
      exact mem_ids hx
    obtain ⟨k, hk, q1, q2, q3⟩ := h.w x hx2
    have := mem_setJ (id := (fetchJ b).f0) (s := 2) (u := usedOf b (fetchJ b).f0 + 1) hk
    rw [if_neg (by rw [q1]; exact hne)] at this
    exact ⟨k, this, q1, q2, q3⟩
  · intro k hk hs
    rcases setJ_mem hk with ⟨hk, hn⟩ | ⟨k2, hk2, _, rfl⟩
    · have := (ids_perm t2).mem_iff.1 (h.w2 k hk hs)
      rcases List.mem_cons.1 this with e | e
      · exact absurd e hn
      · exact e
    · cases hs
  · intro k hk
    rcases setJ_mem hk with ⟨hk, hn⟩ | ⟨k2, hk2, e, rfl⟩
    · exact h.ok k hk
    · obtain rfl := lk_same (κ := jid) h.nd hk2 hj (by show k2.id = j.id; rw [e, e1])
      refine ⟨hok.1, .inr (.inl ⟨rfl, ?_, ?_⟩)⟩
      · show 1 ≤ usedOf b _ + 1
        rw [hu]
        have := hok.2
        omega
      · show usedOf b _ + 1 ≤ b.tr + 1
        rw [hu]
        have := hok.2
        omega
  · intro k hk
    rcases setJ_mem hk with ⟨hk, hn⟩ | ⟨k2, hk2, e, rfl⟩
    · exact h.wf k hk
    · exact h.wf k2 hk2
  · show ((setJ _ _ _ _).length : Int) ≤ b.rm
    rw [setJ_len]; exact h.le
  · show ((b.Ls ++ [_]).map gno).Nodup
    rw [List.map_append, List.nodup_append]
    refine ⟨h.gn, by simp, fun x hx y hy => ?_⟩
    simp only [List.map_cons, List.map_nil, List.mem_singleton] at hy
    subst hy
    rintro rfl
    obtain ⟨g, hg, e⟩ := List.mem_map.1 hx
    have := (h.g g hg).2.1
    have e : g.n = b.ct + 1 := e
    omega
  · show ((b.Ls ++ [_]).map gjo).Nodup
    rw [List.map_append, List.nodup_append]
    refine ⟨h.gj, by simp, fun x hx y hy => ?_⟩
    simp only [List.map_cons, List.map_nil, List.mem_singleton] at hy
    subst hy
    rintro rfl
    exact hnl (by rw [e1]; exact hx)
  · intro g hg
    rcases List.mem_append.1 hg with hg | hg
    · obtain ⟨q1, q2, k, hk, q3, q4⟩ := h.g g hg
      have hne : k.id ≠ (fetchJ b).f0 := fun e => by
        obtain rfl := lk_same (κ := jid) h.nd hk hj (by show k.id = j.id; rw [e, e1])
        omega
      have := mem_setJ (id := (fetchJ b).f0) (s := 2) (u := usedOf b (fetchJ b).f0 + 1) hk
      rw [if_neg hne] at this
      exact ⟨q1, by show g.n ≤ b.ct + 1; omega, k, this, q3, q4⟩
    · rw [List.mem_singleton.1 hg]
      have := mem_setJ (id := (fetchJ b).f0) (s := 2) (u := usedOf b (fetchJ b).f0 + 1) hj
      rw [if_pos e1] at this
      have h5 := h.ct
      exact ⟨by show 1 ≤ b.ct + 1; omega, Int.le_refl _, _, this, e1, rfl⟩
  · intro k hk hs
    rcases setJ_mem hk with ⟨hk, hn⟩ | ⟨k2, hk2, e, rfl⟩
    · obtain ⟨g, hg, e⟩ := h.g2 k hk hs
      exact ⟨g, List.mem_append_left _ hg, e⟩
    · exact ⟨_, List.mem_append_right _ (List.mem_singleton.2 rfl), e.symm⟩
/-! ### A job is open no more -/
/-- Job id goes, whatever it did: from the queue if it waits, its lease if it has one. -/
def goneB (b : Book) (id : Int) : Book := { b with Js := Lst.rm jid b.Js id, L := dropL b.ag b.L id, Ls := Lst.rm gjo b.Ls id }
theorem Inv.gone (h : Inv b) (id : Int) : Inv (goneB b id) := by
  have hst : St b.ag (dropL b.ag b.L id) ∧ ∀ x, x ∈ dropL b.ag b.L id ↔ x ∈ b.L ∧ x.f0 ≠ id := by
    by_cases hin : id ∈ ids b.L
    · obtain ⟨y, hy, e, k1, k2⟩ := h.st.drop hin
      refine ⟨k1, fun x => ?_⟩
      have hnd := (ids_perm k2).nodup_iff.1 h.st.nd
      have hnd := (List.nodup_cons.1 hnd).1
      rw [k2.mem_iff, List.mem_cons]
      constructor
      · intro hx
        refine ⟨.inr hx, fun e2 => hnd ?_⟩
        have h3 := mem_ids hx
        rw [e2] at h3
        show y.f0 ∈ _
        rw [e]
        exact h3
      · rintro ⟨rfl | hx, hne⟩
        · exact absurd e hne
        · exact hx
    · rw [drop_no hin]
      refine ⟨h.st, fun x => ⟨fun hx => ⟨hx, fun e => hin (e ▸ mem_ids hx)⟩, fun hx => hx.1⟩⟩
  refine ⟨h.ag, h.rm, h.tr, h.ct, hst.1, rm_nd h.nd _, ?_, ?_, fun j hj => h.ok j (rm_mem.1 hj).1, fun j hj => h.wf j (rm_mem.1 hj).1, ?_, rm_nd h.gn _, rm_nd h.gj _, ?_, ?_⟩
  · intro x hx
    obtain ⟨hx, hne⟩ := (hst.2 x).1 hx
    obtain ⟨j, hj, e, e2⟩ := h.w x hx
    exact ⟨j, rm_mem.2 ⟨hj, by show j.id ≠ id; rw [e]; exact hne⟩, e, e2⟩
  · intro j hj hs
    obtain ⟨hj, hne⟩ := rm_mem.1 hj
    obtain ⟨x, hx, e⟩ := List.mem_map.1 (h.w2 j hj hs)
    have e : x.f0 = j.id := e
    rw [← e]
    exact mem_ids ((hst.2 x).2 ⟨hx, by rw [e]; exact hne⟩)
  · have h1 := h.le
    have h2 : (Lst.rm jid b.Js id).length ≤ b.Js.length := List.length_filter_le _ _
    show ((Lst.rm jid b.Js id).length : Int) ≤ b.rm
    omega
  · intro g hg
    obtain ⟨hg, hne⟩ := rm_mem.1 hg
    obtain ⟨q1, q2, k, hk, q3, q4⟩ := h.g g hg
    exact ⟨q1, q2, k, rm_mem.2 ⟨hk, by show k.id ≠ id; rw [q3]; exact hne⟩, q3, q4⟩
  · intro j hj hs
    obtain ⟨hj, hne⟩ := rm_mem.1 hj
    obtain ⟨g, hg, e⟩ := h.g2 j hj hs
    exact ⟨g, rm_mem.2 ⟨hg, by show g.j ≠ id; rw [e]; exact hne⟩, e⟩
theorem Inv.not_waits (h : Inv b) {j : Jb} (hj : j ∈ b.Js) (hs : j.st ≠ 1) : j.id ∉ ids b.L := by
  intro hx
  obtain ⟨y, hy, e⟩ := List.mem_map.1 hx
  obtain ⟨k, hk, e2, _, e3⟩ := h.w y hy
  have := lk_same (κ := jid) h.nd hk hj (by show k.id = j.id; rw [e2]; exact e)
  rw [this] at e3
  exact hs e3
/-! ### A lease that fails: its job rests -/
def restB (b : Book) (id us : Int) : Book := { b with Js := setJ b.Js id 3 us, Ls := Lst.rm gjo b.Ls id }
theorem Inv.rest (h : Inv b) {j : Jb} (hj : j ∈ b.Js) (hs : j.st = 2) (hu : j.us ≤ b.tr) : Inv (restB b j.id j.us) := by
  have hok := h.ok j hj
  refine ⟨h.ag, h.rm, h.tr, h.ct, h.st, ?_, ?_, ?_, ?_, ?_, ?_, rm_nd h.gn _, rm_nd h.gj _, ?_, ?_⟩
  · show ((setJ _ _ _ _).map jid).Nodup
    rw [setJ_id]; exact h.nd
  · intro x hx
    obtain ⟨k, hk, q1, q2, q3⟩ := h.w x hx
    have := mem_setJ (id := j.id) (s := 3) (u := j.us) hk
    rw [if_neg (fun e => by
      obtain rfl := lk_same (κ := jid) h.nd hk hj e
      omega)] at this
    exact ⟨k, this, q1, q2, q3⟩
  · intro k hk hs2
    rcases setJ_mem hk with ⟨hk, hn⟩ | ⟨k2, hk2, _, rfl⟩
    · exact h.w2 k hk hs2
    · cases hs2
  · intro k hk
    rcases setJ_mem hk with ⟨hk, hn⟩ | ⟨k2, hk2, e, rfl⟩
    · exact h.ok k hk
    · obtain rfl := lk_same (κ := jid) h.nd hk2 hj e
      have := hok.2
      exact ⟨hok.1, .inr (.inr ⟨rfl, by show 1 ≤ k2.us; omega, hu⟩)⟩
  · intro k hk
    rcases setJ_mem hk with ⟨hk, hn⟩ | ⟨k2, hk2, e, rfl⟩
    · exact h.wf k hk
    · exact h.wf k2 hk2
  · show ((setJ _ _ _ _).length : Int) ≤ b.rm
    rw [setJ_len]; exact h.le
  · intro g hg
    obtain ⟨hg, hne⟩ := rm_mem.1 hg
    obtain ⟨q1, q2, k, hk, q3, q4⟩ := h.g g hg
    have := mem_setJ (id := j.id) (s := 3) (u := j.us) hk
    rw [if_neg (by rw [q3]; exact hne)] at this
    exact ⟨q1, q2, k, this, q3, q4⟩
  · intro k hk hs2
    rcases setJ_mem hk with ⟨hk, hn⟩ | ⟨k2, hk2, e, rfl⟩
    · obtain ⟨g, hg, e⟩ := h.g2 k hk hs2
      exact ⟨g, rm_mem.2 ⟨hg, by show g.j ≠ j.id; rw [e]; exact hn⟩, e⟩
    · cases hs2
/-! ### A job that rested waits again -/
def wakeB (b : Book) (j : Jb) : Book := { b with Js := setJ b.Js j.id 1 j.us, L := pushL b.ag b.L ⟨j.id, j.cls, b.ct⟩ }
theorem Inv.wake_put (h : Inv b) {j : Jb} (hj : j ∈ b.Js) (hs : j.st = 3) : putE b.L b.rm j.id j.cls = 0 ∧ putL b.ag b.rm b.ct b.L j.id j.cls = pushL b.ag b.L ⟨j.id, j.cls, b.ct⟩ := by
  have h1 := h.len_lt hj (by omega)
  have h2 := h.le
  have h5 := put_ok (rm := b.rm) (h.ok j hj).1 (h.not_waits hj (by omega)) (by omega)
  exact ⟨h5, putL_ok h5⟩
theorem Inv.wake (h : Inv b) {j : Jb} (hj : j ∈ b.Js) (hs : j.st = 3) : Inv (wakeB b j) := by
  have hok := h.ok j hj
  obtain ⟨k1, k2⟩ := h.st.push (x := ⟨j.id, j.cls, b.ct⟩) (h.not_waits hj (by omega))
  refine ⟨h.ag, h.rm, h.tr, h.ct, k1, ?_, ?_, ?_, ?_, ?_, ?_, h.gn, h.gj, ?_, ?_⟩
  · show ((setJ _ _ _ _).map jid).Nodup
    rw [setJ_id]; exact h.nd
  · intro x hx
    rcases List.mem_cons.1 (k2.mem_iff.1 hx) with rfl | hx
    · have := mem_setJ (id := j.id) (s := 1) (u := j.us) hj
      rw [if_pos rfl] at this
      exact ⟨_, this, rfl, rfl, rfl⟩
    · obtain ⟨k, hk, q1, q2, q3⟩ := h.w x hx
      have := mem_setJ (id := j.id) (s := 1) (u := j.us) hk
      rw [if_neg (fun e => by
        obtain rfl := lk_same (κ := jid) h.nd hk hj e
        omega)] at this
      exact ⟨k, this, q1, q2, q3⟩
  · intro k hk hs2
    rw [show (ids (wakeB b j).L) = ids (pushL b.ag b.L ⟨j.id, j.cls, b.ct⟩) from rfl, (ids_perm k2).mem_iff]
    rcases setJ_mem hk with ⟨hk, hn⟩ | ⟨k2, hk2, e, rfl⟩
    · exact List.mem_cons_of_mem _ (h.w2 k hk hs2)
    · rw [show (⟨k2.id, k2.cls, 1, j.us⟩ : Jb).id = j.id from e]; exact List.mem_cons_self
  · intro k hk
    rcases setJ_mem hk with ⟨hk, hn⟩ | ⟨k3, hk2, e, rfl⟩
    · exact h.ok k hk
    · obtain rfl := lk_same (κ := jid) h.nd hk2 hj e
      have := hok.2
      exact ⟨hok.1, .inl ⟨rfl, by show 0 ≤ k3.us; omega, by show k3.us ≤ b.tr; omega⟩⟩
  · intro k hk
    rcases setJ_mem hk with ⟨hk, hn⟩ | ⟨k2, hk2, e, rfl⟩
    · exact h.wf k hk
    · exact h.wf k2 hk2
  · show ((setJ _ _ _ _).length : Int) ≤ b.rm
    rw [setJ_len]; exact h.le
  · intro g hg
    obtain ⟨q1, q2, k, hk, q3, q4⟩ := h.g g hg
    have := mem_setJ (id := j.id) (s := 1) (u := j.us) hk
    rw [if_neg (fun e => by
      obtain rfl := lk_same (κ := jid) h.nd hk hj e
      omega)] at this
    exact ⟨q1, q2, k, this, q3, q4⟩
  · intro k hk hs2
    rcases setJ_mem hk with ⟨hk, hn⟩ | ⟨k2, hk2, e, rfl⟩
    · exact h.g2 k hk hs2
    · cases hs2
end
end Go.Proofs.Ytfkebbkfmchnaaa.Bk

set_option linter.unusedVariables false
namespace Go.Proofs.Ytfkebbkfmchnaaa.Bk
open Go.RowKit Go.Maps Go.Proofs.Ytfkebbkfmchnaaa.PBase Go.Proofs.Ytfkebbkfmchnaaa.Cat Go.Proofs.Ytfkebbkfmchnaaa.Heap Go.Proofs.Ytfkebbkfmchnaaa.Ln Go.Proofs.Ytfkebbkfmchnaaa.Lst Go.Proofs.Ytfkebbkfmchnaaa.Mq Go.Proofs.YtfkebbkfmchnaaaW.PrintWords Go.Proofs.YtfkebbkfmchnaaaW.PrintLast Go.Proofs.YtfkebbkfmchnaaaW.PrintMore
/-! ### retry.Step, plain -/
def G (n s u : Int) : Prop := 0 ≤ n ∧ n ≤ 9 ∧ (s = 1 ∧ 0 ≤ u ∧ u ≤ n ∨ (s = 2 ∨ s = 4) ∧ 1 ≤ u ∧ u ≤ n + 1 ∨ s = 3 ∧ 1 ≤ u ∧ u ≤ n ∨ s = 5 ∧ u = n + 1)
instance (n s u : Int) : Decidable (G n s u) := by unfold G; infer_instance
theorem w64 {n : Int} (h : 0 ≤ n) (h2 : n ≤ 1000) : wrap64 n = n := by unfold wrap64; omega
theorem isIn (a b c : Int) : retry_in.f a b c = some (decide (b ≤ a ∧ a ≤ c)) := by
  unfold retry_in.f
  by_cases h : a ≥ b
  · rw [if_pos h]; congr 1; rw [decide_eq_decide]; omega
  · rw [if_neg h]; congr 1; symm; rw [decide_eq_false_iff_not]; omega
theorem good (k : Nat) (n s u : Int) : retry_Good.f (k + 1) n s u = some (decide (G n s u)) := by
  unfold retry_Good.f retry_Good.j0
  simp only [isIn, Option.bind_some, decide_eq_true_eq, beq_iff_eq]
  by_cases h : 0 ≤ n ∧ n ≤ 9
  · rw [if_pos h, w64 (by omega) (by omega)]
    repeat' split
    all_goals (congr 1; rw [Bool.eq_iff_iff]; simp only [decide_eq_true_eq, beq_iff_eq, Bool.false_eq_true]; unfold G; first | omega | (constructor <;> intro hh <;> first | exact hh.elim | omega))
  · rw [if_neg h]; congr 1; symm; rw [decide_eq_false_iff_not]; unfold G; omega
def S (n s u x : Int) : Int × Int × Bool := if G n s u then (if x = 1 ∧ s = 1 then (2, u + 1, true) else if x = 4 ∧ s = 3 then (1, u, true) else if x = 3 ∧ s = 2 then (if n < u then (5, u, true) else (3, u, true)) else if x = 2 ∧ s = 2 then (4, u, true) else (0, 0, false)) else (0, 0, false)
theorem step (k : Nat) (n s u x : Int) : retry_Step.f (k + 1) n s u x = some (S n s u x) := by
  unfold retry_Step.f retry_Step.j0 S
  simp only [good, Option.bind_some, decide_eq_true_eq]
  by_cases h : G n s u
  · have hu : wrap64 (u + 1) = u + 1 := by unfold G at h; apply w64 <;> omega
    have hs : s ≠ 0 := by unfold G at h; omega
    simp only [if_pos h, hu]
    repeat' split
    all_goals (first | rfl | omega)
  · rw [if_neg h, if_neg h]
theorem S_fetch {n u : Int} (h : 0 ≤ n ∧ n ≤ 9) (h2 : 0 ≤ u ∧ u ≤ n) : S n 1 u 1 = (2, u + 1, true) := by
  unfold S
  rw [if_pos (by unfold G; omega), if_pos (by omega)]
theorem S_answer {n u : Int} (h : 0 ≤ n ∧ n ≤ 9) (h2 : 1 ≤ u ∧ u ≤ n + 1) : S n 2 u 2 = (4, u, true) := by
  unfold S
  rw [if_pos (by unfold G; omega), if_neg (by omega), if_neg (by omega), if_neg (by omega), if_pos (by omega)]
theorem S_fail {n u : Int} (h : 0 ≤ n ∧ n ≤ 9) (h2 : 1 ≤ u ∧ u ≤ n + 1) : S n 2 u 3 = (if n < u then 5 else 3, u, true) := by
  unfold S
  rw [if_pos (by unfold G; omega), if_neg (by omega), if_neg (by omega), if_pos (by omega)]
  split <;> rfl
theorem S_rest {n u : Int} (h : 0 ≤ n ∧ n ≤ 9) (h2 : 1 ≤ u ∧ u ≤ n) : S n 3 u 4 = (1, u, true) := by
  unfold S
  rw [if_pos (by unfold G; omega), if_neg (by omega), if_pos (by omega)]
theorem S_norest {n s u : Int} (h : s ≠ 3) : S n s u 4 = (0, 0, false) := by
  unfold S
  split
  · rw [if_neg (by omega), if_neg (by omega), if_neg (by omega), if_neg (by omega)]
  · rfl
theorem step_run (n s u x s2 u2 : Int) (ok : Bool) (h : S n s u x = (s2, u2, ok)) (w : World) :
    Calls Try.prog 61 #[.int .i64 n, .agg #[.int .i64 s, .int .i64 u], .int .i64 x] w fun e w' => e = .returned (.tuple #[.agg #[.int .i64 s2, .int .i64 u2], .bool ok]) ∧ Below w.heap.size w w' := retry_Step.calls 9 n s u x s2 u2 ok w (by rw [← h]; exact step 8 n s u x)
/-! ### In memory -/
/-- A job without its number. -/
structure Jc where
  cls : Int
  st : Int
  us : Int
def jc (j : Jb) : Jc := ⟨j.cls, j.st, j.us⟩
def eJc : El Jc where
  val := fun g => .agg #[.int .i64 g.cls, .int .i64 g.st, .int .i64 g.us]
  dat := fun g => .agg [.lit (.int .i64 g.cls), .lit (.int .i64 g.st), .lit (.int .i64 g.us)]
  rd := fun v => match v with
    | .agg ⟨[.int .i64 n, .int .i64 j, .int .i64 u]⟩ => some (.agg [.lit (.int .i64 n), .lit (.int .i64 j), .lit (.int .i64 u)], [])
    | _ => none
  z := ⟨0, 0, 0⟩
  mk1 := fun x => rfl
  inv := fun v d ps h => by
    split at h
    · cases h; exact ⟨⟨_, _, _⟩, rfl, rfl⟩
    · cases h
  inj := fun x y h => by
    obtain ⟨a, b, c⟩ := x
    obtain ⟨a2, b2, c2⟩ := y
    simp only [DataW.agg.injEq, List.cons.injEq, DataW.lit.injEq, Lit.int.injEq, true_and, and_true] at h
    obtain ⟨h1, h2, h3⟩ := h
    rw [h1, h2, h3]
theorem ekJc : EK eJc 74 70 := ⟨Try.underlying70, fun w => by kernel_rfl⟩
/-- A book's blocks, and X. -/
def BX (X : Nat → Prop) (G T mj ma mo : Nat) (k : Nat) : Prop := X k ∨ k = G ∨ k = mj ∨ TF T ma mo k
/-- A book in memory, its parts. -/
structure RM (N : Nat) (X : Nat → Prop) (W : World) (G B T mj ma mo : Nat) (ag rm tr ct last : Int) (L : List S77) (f : Int → Option Jc) (c : Nat) (Ls : List Gr) : Prop where
  g : W.heap[G]? = some (.cells #[ptr B, .int .i64 rm, .int .i64 tr, ptr T, .map (some mj)] 72 (0, 0))
  t : TB W T ma mo last Ls
  q : QI N (BX X G T mj ma mo) W B ag rm ct L
  j : MI eJc W mj f c
  lo : ∀ k, k = G ∨ k = mj ∨ TF T ma mo k → N ≤ k ∧ ¬ X k
  n1 : mj ≠ ma
  n2 : mj ≠ mo
  n3 : G ≠ T
section
variable {N : Nat} {X : Nat → Prop} {W W' : World} {G B T mj ma mo : Nat} {ag rm tr ct last : Int} {L : List S77} {f : Int → Option Jc} {c : Nat} {Ls : List Gr}
theorem RM.glt (h : RM N X W G B T mj ma mo ag rm tr ct last L f c Ls) : G < W.heap.size := (Array.getElem?_eq_some_iff.1 h.g).1
theorem RM.ng (h : RM N X W G B T mj ma mo ag rm tr ct last L f c Ls) : mj ≠ G := by
  obtain ⟨es, ck, h1⟩ := h.j.blk
  exact blk_ne h1 h.g
theorem RM.nt (h : RM N X W G B T mj ma mo ag rm tr ct last L f c Ls) : mj ≠ T := by
  obtain ⟨es, ck, h1⟩ := h.j.blk
  exact blk_ne h1 h.t.t
theorem RM.nga (h : RM N X W G B T mj ma mo ag rm tr ct last L f c Ls) : ma ≠ G := by
  obtain ⟨es, ck, h1⟩ := h.t.a.blk
  exact blk_ne h1 h.g
theorem RM.ngo (h : RM N X W G B T mj ma mo ag rm tr ct last L f c Ls) : mo ≠ G := by
  obtain ⟨es, ck, h1⟩ := h.t.o.blk
  exact blk_ne h1 h.g
theorem RM.cell (h : RM N X W G B T mj ma mo ag rm tr ct last L f c Ls) (i : Nat) : W.cell? ⟨G, i, none⟩ = (#[ptr B, .int .i64 rm, .int .i64 tr, ptr T, .map (some mj)] : Array Value)[i]? := cell_of_row W G i _ 72 (0, 0) h.g
theorem RM.c0 (h : RM N X W G B T mj ma mo ag rm tr ct last L f c Ls) : W.cell? ⟨G, 0, none⟩ = some (ptr B) := h.cell 0
theorem RM.c1 (h : RM N X W G B T mj ma mo ag rm tr ct last L f c Ls) : W.cell? ⟨G, 1, none⟩ = some (.int .i64 rm) := h.cell 1
theorem RM.c2 (h : RM N X W G B T mj ma mo ag rm tr ct last L f c Ls) : W.cell? ⟨G, 2, none⟩ = some (.int .i64 tr) := h.cell 2
theorem RM.c3 (h : RM N X W G B T mj ma mo ag rm tr ct last L f c Ls) : W.cell? ⟨G, 3, none⟩ = some (ptr T) := h.cell 3
theorem RM.c4 (h : RM N X W G B T mj ma mo ag rm tr ct last L f c Ls) : W.cell? ⟨G, 4, none⟩ = some (.map (some mj)) := h.cell 4
theorem RM.congr {f2 : Int → Option Jc} {c2 : Nat} {Ls2} (h : RM N X W G B T mj ma mo ag rm tr ct last L f c Ls) (hf : ∀ x, f x = f2 x) (hc : c = c2) (hl : Ls = Ls2) : RM N X W G B T mj ma mo ag rm tr ct last L f2 c2 Ls2 := by
  subst hc hl
  exact { h with j := h.j.congr hf }
/-- The queue's calls. -/
theorem RM.queue {ct2 : Int} {L2 : List S77} (h : RM N X W G B T mj ma mo ag rm tr ct last L f c Ls) (hq : QI N (BX X G T mj ma mo) W' B ag rm ct2 L2) (hf : Fr (KX N (BX X G T mj ma mo)) W W') : RM N X W' G B T mj ma mo ag rm tr ct2 last L2 f c Ls ∧ Fr (KX N X) W W' := by
  have hn : ∀ k, k = G ∨ k = mj ∨ TF T ma mo k → ¬ KX N (BX X G T mj ma mo) k := fun k hk e => e.2 (.inr hk)
  refine ⟨⟨(hf.blk G h.glt (hn G (.inl rfl))).trans h.g, h.t.fr hf (fun k hk => hn k (.inr (.inr hk))), hq, h.j.fr hf (hn mj (.inr (.inl rfl))), h.lo, h.n1, h.n2, h.n3⟩, hf.weak (fun k hk => ⟨hk.1, fun hx => hk.2 (.inl hx)⟩)⟩
/-- The table's. -/
theorem RM.table {last2 : Int} {Ls2 : List Gr} (h : RM N X W G B T mj ma mo ag rm tr ct last L f c Ls) (ht : TB W' T ma mo last2 Ls2) (hf : Fr (TF T ma mo) W W') : RM N X W' G B T mj ma mo ag rm tr ct last2 L f c Ls2 ∧ Fr (KX N X) W W' := by
  refine ⟨⟨(hf.blk G h.glt ?_).trans h.g, ht, h.q.keep (hf.weak (fun k hk => .inr (.inr (.inr hk)))), h.j.fr hf ?_, h.lo, h.n1, h.n2, h.n3⟩, hf.weak (fun k hk => h.lo k (.inr (.inr hk)))⟩
  · rintro (e | e | e)
    · exact h.n3 e
    · exact h.nga e.symm
    · exact h.ngo e.symm
  · rintro (e | e | e)
    · exact h.nt e
    · exact h.n1 e
    · exact h.n2 e
/-- The map's. -/
theorem RM.open_ {f2 : Int → Option Jc} {c2 : Nat} (h : RM N X W G B T mj ma mo ag rm tr ct last L f c Ls) (hj : MI eJc W' mj f2 c2) (hf : Fr (fun k => k = mj) W W') : RM N X W' G B T mj ma mo ag rm tr ct last L f2 c2 Ls ∧ Fr (KX N X) W W' := by
  refine ⟨⟨(hf.blk G h.glt (fun e => h.ng e.symm)).trans h.g, h.t.fr hf ?_, h.q.keep (hf.weak (fun k hk => .inr (.inr (.inl hk)))), hj, h.lo, h.n1, h.n2, h.n3⟩, hf.weak (fun k hk => h.lo k (.inr (.inl hk)))⟩
  rintro k (rfl | rfl | rfl) e
  · exact h.nt e.symm
  · exact h.n1 e.symm
  · exact h.n2 e.symm
theorem RM.step (h : RM N X W G B T mj ma mo ag rm tr ct last L f c Ls) (hb : Below W.heap.size W W') : RM N X W' G B T mj ma mo ag rm tr ct last L f c Ls :=
  have hf : Fr (fun _ => False) W W' := Fr.of_below hb
  ⟨(hf.blk G h.glt (fun h => h)).trans h.g, h.t.step hb, h.q.step hb, h.j.fr hf (fun h => h), h.lo, h.n1, h.n2, h.n3⟩
/-! ### step -/
theorem step_ret {Q : Ending → World → Prop} {tmps : Array Value} {W : World} {s u : Int} {b : Bool} {g : Nat} (hg : tmps.getD 6 undef = ptr g) (he : tmps.getD 7 undef = .bool b) (hb : W.heap[g]? = some (.cells #[.int .i64 s, .int .i64 u] 44 (0, 0))) (hQ : Q (.returned (.tuple #[.agg #[.int .i64 s, .int .i64 u], .bool b])) W) : bodyPost Try.prog Try.f37 Q Exit.ret { tmps := tmps, defers := [] } W :=
  bodyPost_ret (v := .tuple #[.agg #[.int .i64 s, .int .i64 u], .bool b]) (by rw [← he]; exact results_ct (fn := Try.f37) rfl tmps W g 44 _ (0, 0) _ hg hb Try.underlying44 rfl (by kernel_rfl)) rfl hQ
set_option maxHeartbeats 4000000 in
set_option maxRecDepth 100000 in
theorem step_none (h : RM N X W G B T mj ma mo ag rm tr ct last L f c Ls) (id what : Int) (hi : (Lit.int .i64 id).wf = true) (hf : f id = none) :
    Calls Try.prog 37 #[ptr G, .int .i64 id, .int .i64 what] W fun e w' => e = .returned (.tuple #[.agg #[.int .i64 0, .int .i64 0], .bool false]) ∧ Below W.heap.size W w' := by
  have hb1 : Below W.heap.size W (W.alloc (.cells #[.int .i64 0, .int .i64 0] 44)) := below_alloc (Below.refl _ _) _
  have h1 := h.step hb1
  have c4 := h1.c4
  have hlook := h1.j.look ekJc hi 0
  rw [hf] at hlook
  replace hlook : (Instr.lookup 70 (.map (some mj)) (.int .i64 id) true).run Try.prog (W.alloc (.cells #[.int .i64 0, .int .i64 0] 44)) = .ok (.tuple #[.agg #[.int .i64 0, .int .i64 0, .int .i64 0], .bool false]) (W.alloc (.cells #[.int .i64 0, .int .i64 0] 44)) := hlook
  clear h h1 hb1 hf
  go_enter Try.func37, Try.ntmps37
  go_wp2
  exact step_ret (s := 0) (u := 0) (g := W.heap.size) rfl rfl (blk_below (blk_new _ _) (below_alloc (Below.refl _ _) _)) ⟨rfl, below_alloc (below_alloc (Below.refl _ _) _) _⟩
set_option maxHeartbeats 8000000 in
set_option maxRecDepth 100000 in
theorem step_bad (h : RM N X W G B T mj ma mo ag rm tr ct last L f c Ls) (id what : Int) (hi : (Lit.int .i64 id).wf = true) (x : Jc) (hf : f id = some x) (hS : S tr x.st x.us what = (0, 0, false)) :
    Calls Try.prog 37 #[ptr G, .int .i64 id, .int .i64 what] W fun e w' => e = .returned (.tuple #[.agg #[.int .i64 0, .int .i64 0], .bool false]) ∧ Below W.heap.size W w' := by
  have hb1 : Below W.heap.size W (W.alloc (.cells #[.int .i64 0, .int .i64 0] 44)) := below_alloc (Below.refl _ _) _
  have h1 := h.step hb1
  have c4 := h1.c4
  have hlook := h1.j.look ekJc hi 0
  rw [hf] at hlook
  replace hlook : (Instr.lookup 70 (.map (some mj)) (.int .i64 id) true).run Try.prog (W.alloc (.cells #[.int .i64 0, .int .i64 0] 44)) = .ok (.tuple #[.agg #[.int .i64 x.cls, .int .i64 x.st, .int .i64 x.us], .bool true]) (W.alloc (.cells #[.int .i64 0, .int .i64 0] 44)) := hlook
  have hSS := Aside0.mk hS
  have H0 := Aside0.mk h
  have H1 := Aside0.mk h1
  have HF := Aside0.mk hf
  clear h h1 hb1 hf hS
  go_enter Try.func37, Try.ntmps37
  go_upto_region 4 with (fail)
  generalize hW2 : ((W.alloc (.cells #[.int .i64 0, .int .i64 0] 44)).alloc (.cells #[.int .i64 x.cls, .int .i64 x.st, .int .i64 x.us] 74)) = W2
  have hbW : Below W.heap.size W W2 := by rw [← hW2]; exact below_alloc (below_alloc (Below.refl _ _) _) _
  have hb2 : Below (W.alloc (.cells #[.int .i64 0, .int .i64 0] 44)).heap.size (W.alloc (.cells #[.int .i64 0, .int .i64 0] 44)) W2 := by rw [← hW2]; exact below_alloc (Below.refl _ _) _
  have hx6 : W2.heap[W.heap.size]? = some (.cells #[.int .i64 0, .int .i64 0] 44 (0, 0)) := by rw [← hW2]; exact blk_below (blk_new _ _) (below_alloc (Below.refl _ _) _)
  have hx8 : W2.heap[W.heap.size + 1]? = some (.cells #[.int .i64 x.cls, .int .i64 x.st, .int .i64 x.us] 74 (0, 0)) := by
    have h3 := blk_new (W.alloc (.cells #[.int .i64 0, .int .i64 0] 44)) (.cells #[.int .i64 x.cls, .int .i64 x.st, .int .i64 x.us] 74)
    rw [hW2, show (W.alloc (.cells #[.int .i64 0, .int .i64 0] 44)).heap.size = W.heap.size + 1 from by simp] at h3
    exact h3
  have H2 := Aside0.mk (H1.out.step hb2)
  have kp : Aside0 (∀ w', Below W2.heap.size W2 w' → w'.cell? ⟨G, 2, none⟩ = some (.int .i64 tr) ∧ w'.cell? ⟨W.heap.size + 1, 1, none⟩ = some (.int .i64 x.st) ∧ w'.cell? ⟨W.heap.size + 1, 2, none⟩ = some (.int .i64 x.us)) := ⟨fun w' hb => ⟨(H2.out.step hb).c2, (blk_cell (blk_below hx8 hb) 1).trans rfl, (blk_cell (blk_below hx8 hb) 2).trans rfl⟩⟩
  clear hW2 H1 hb2 hlook c4
  go_cut [9, 10] (fun v9 v10 wx => v9 = .bool false ∧ ∃ k, v10 = ptr k ∧ W2.heap.size ≤ k ∧ wx.heap[k]? = some (.cells #[.int .i64 0, .int .i64 0] 44 (0, 0)) ∧ Below W2.heap.size W2 wx)
  case first =>
    as_aux_lemma =>
    go_region_held3 (fun w' => w'.cell? ⟨G, 2, none⟩ = some (.int .i64 tr) ∧ w'.cell? ⟨W.heap.size + 1, 1, none⟩ = some (.int .i64 x.st) ∧ w'.cell? ⟨W.heap.size + 1, 2, none⟩ = some (.int .i64 x.us)) (first | exact kp.out _ (below_drew1 (Below.refl _ _)) | exact kp.out _ (below_step (below_drew1 (Below.refl _ _)) hb5) | exact kp.out _ (below_alloc (below_step (below_drew1 (Below.refl _ _)) hb5) _) | exact kp.out _ (below_drew1 (below_alloc (Below.refl _ _) _)) | exact kp.out _ (below_step (below_drew1 (below_alloc (Below.refl _ _) _)) hb5) | exact kp.out _ (below_set (below_set (below_step (below_drew1 (below_alloc (Below.refl _ _) _)) hb5) (Nat.le_refl _)) (Nat.le_refl _))) (first | (go_at_call 61; refine (step_run _ _ _ _ _ _ _ hSS.out _).mono ?_; rintro e w5 ⟨rfl, hb5⟩; try (have hx9 := Aside0.mk (blk_below (show (W2.alloc (.cells #[.int .i64 0, .int .i64 0] 44)).drew.heap[W2.heap.size]? = _ from blk_new _ _) hb5); have hs0 := (blk_cell hx9.out 0).trans rfl; have hs1 := (blk_cell hx9.out 1).trans rfl; have hf0 := blk_frozen hx9.out 0; have hf1 := blk_frozen hx9.out 1)))
    · go_wp2_with (fail)
      go_meet
      exact ⟨rfl, _, rfl, hb5.size, blk_new _ _, below_alloc (below_step (below_drew1 (Below.refl _ _)) hb5) _⟩
    · go_wp2_with (fail)
      go_meet
      exact ⟨rfl, _, rfl, Nat.le_refl _, blk_put (blk_put hx9.out 0 _ rfl) 1 _ rfl, below_set (below_set (below_step (below_drew1 (below_alloc (Below.refl _ _) _)) hb5) (Nat.le_refl _)) (Nat.le_refl _)⟩
  case rest =>
    as_aux_lemma =>
    obtain ⟨rfl, k, rfl, hk, hxk, hbx⟩ := hcut
    clear kp
    have hsz2 : W.heap.size + 2 ≤ W2.heap.size := by have := blk_lt hx8; omega
    have hy6 := blk_below hx6 hbx
    have hy8 := blk_below hx8 hbx
    have hs0 := (blk_cell hy6 0).trans rfl
    have hs1 := (blk_cell hy6 1).trans rfl
    have hf0 := blk_frozen hy6 0
    have hf1 := blk_frozen hy6 1
    have hy6 := Aside0.mk hy6
    have hbb := Aside0.mk (below_step hbW hbx)
    go_wp2
    exact step_ret (s := 0) (u := 0) (g := W.heap.size) rfl rfl (blk_put (blk_put hy6.out 0 _ rfl) 1 _ rfl) ⟨rfl, below_set (below_set hbb.out (Nat.le_refl _)) (Nat.le_refl _)⟩
set_option maxHeartbeats 8000000 in
set_option maxRecDepth 100000 in
theorem step_go (h : RM N X W G B T mj ma mo ag rm tr ct last L f c Ls) (id what : Int) (hi : (Lit.int .i64 id).wf = true) (x : Jc) (hf : f id = some x) (s2 u2 : Int) (hS : S tr x.st x.us what = (s2, u2, true)) (h4 : ¬ s2 = 4) (h5 : ¬ s2 = 5) (hc : c < maxLen) :
    Calls Try.prog 37 #[ptr G, .int .i64 id, .int .i64 what] W fun e w' => e = .returned (.tuple #[.agg #[.int .i64 s2, .int .i64 u2], .bool true]) ∧ Aside0 (MI eJc w' mj (upd f id (some ⟨x.cls, s2, u2⟩)) c ∧ Fr (fun k => k = mj) W w') := by
  have hb1 : Below W.heap.size W (W.alloc (.cells #[.int .i64 0, .int .i64 0] 44)) := below_alloc (Below.refl _ _) _
  have h1 := h.step hb1
  have c4 := h1.c4
  have hlook := h1.j.look ekJc hi 0
  rw [hf] at hlook
  replace hlook : (Instr.lookup 70 (.map (some mj)) (.int .i64 id) true).run Try.prog (W.alloc (.cells #[.int .i64 0, .int .i64 0] 44)) = .ok (.tuple #[.agg #[.int .i64 x.cls, .int .i64 x.st, .int .i64 x.us], .bool true]) (W.alloc (.cells #[.int .i64 0, .int .i64 0] 44)) := hlook
  have hSS := Aside0.mk hS
  have H0 := Aside0.mk h
  have H1 := Aside0.mk h1
  have HF := Aside0.mk hf
  clear h h1 hb1 hf hS
  go_enter Try.func37, Try.ntmps37
  go_upto_region 4 with (fail)
  generalize hW2 : ((W.alloc (.cells #[.int .i64 0, .int .i64 0] 44)).alloc (.cells #[.int .i64 x.cls, .int .i64 x.st, .int .i64 x.us] 74)) = W2
  have hbW : Below W.heap.size W W2 := by rw [← hW2]; exact below_alloc (below_alloc (Below.refl _ _) _) _
  have hb2 : Below (W.alloc (.cells #[.int .i64 0, .int .i64 0] 44)).heap.size (W.alloc (.cells #[.int .i64 0, .int .i64 0] 44)) W2 := by rw [← hW2]; exact below_alloc (Below.refl _ _) _
  have hx6 : W2.heap[W.heap.size]? = some (.cells #[.int .i64 0, .int .i64 0] 44 (0, 0)) := by rw [← hW2]; exact blk_below (blk_new _ _) (below_alloc (Below.refl _ _) _)
  have hx8 : W2.heap[W.heap.size + 1]? = some (.cells #[.int .i64 x.cls, .int .i64 x.st, .int .i64 x.us] 74 (0, 0)) := by
    have h3 := blk_new (W.alloc (.cells #[.int .i64 0, .int .i64 0] 44)) (.cells #[.int .i64 x.cls, .int .i64 x.st, .int .i64 x.us] 74)
    rw [hW2, show (W.alloc (.cells #[.int .i64 0, .int .i64 0] 44)).heap.size = W.heap.size + 1 from by simp] at h3
    exact h3
  have H2 := Aside0.mk (H1.out.step hb2)
  have kp : Aside0 (∀ w', Below W2.heap.size W2 w' → w'.cell? ⟨G, 2, none⟩ = some (.int .i64 tr) ∧ w'.cell? ⟨W.heap.size + 1, 1, none⟩ = some (.int .i64 x.st) ∧ w'.cell? ⟨W.heap.size + 1, 2, none⟩ = some (.int .i64 x.us)) := ⟨fun w' hb => ⟨(H2.out.step hb).c2, (blk_cell (blk_below hx8 hb) 1).trans rfl, (blk_cell (blk_below hx8 hb) 2).trans rfl⟩⟩
  clear hW2 H1 hb2 hlook c4
  go_cut [9, 10] (fun v9 v10 wx => v9 = .bool true ∧ ∃ k, v10 = ptr k ∧ W2.heap.size ≤ k ∧ wx.heap[k]? = some (.cells #[.int .i64 s2, .int .i64 u2] 44 (0, 0)) ∧ Below W2.heap.size W2 wx)
  case first =>
    as_aux_lemma =>
    go_region_held3 (fun w' => w'.cell? ⟨G, 2, none⟩ = some (.int .i64 tr) ∧ w'.cell? ⟨W.heap.size + 1, 1, none⟩ = some (.int .i64 x.st) ∧ w'.cell? ⟨W.heap.size + 1, 2, none⟩ = some (.int .i64 x.us)) (first | exact kp.out _ (below_drew1 (Below.refl _ _)) | exact kp.out _ (below_step (below_drew1 (Below.refl _ _)) hb5) | exact kp.out _ (below_alloc (below_step (below_drew1 (Below.refl _ _)) hb5) _) | exact kp.out _ (below_drew1 (below_alloc (Below.refl _ _) _)) | exact kp.out _ (below_step (below_drew1 (below_alloc (Below.refl _ _) _)) hb5) | exact kp.out _ (below_set (below_set (below_step (below_drew1 (below_alloc (Below.refl _ _) _)) hb5) (Nat.le_refl _)) (Nat.le_refl _))) (first | (go_at_call 61; refine (step_run _ _ _ _ _ _ _ hSS.out _).mono ?_; rintro e w5 ⟨rfl, hb5⟩; try (have hx9 := Aside0.mk (blk_below (show (W2.alloc (.cells #[.int .i64 0, .int .i64 0] 44)).drew.heap[W2.heap.size]? = _ from blk_new _ _) hb5); have hs0 := (blk_cell hx9.out 0).trans rfl; have hs1 := (blk_cell hx9.out 1).trans rfl; have hf0 := blk_frozen hx9.out 0; have hf1 := blk_frozen hx9.out 1)))
    · go_wp2_with (fail)
      go_meet
      exact ⟨rfl, _, rfl, hb5.size, blk_new _ _, below_alloc (below_step (below_drew1 (Below.refl _ _)) hb5) _⟩
    · go_wp2_with (fail)
      go_meet
      exact ⟨rfl, _, rfl, Nat.le_refl _, blk_put (blk_put hx9.out 0 _ rfl) 1 _ rfl, below_set (below_set (below_step (below_drew1 (below_alloc (Below.refl _ _) _)) hb5) (Nat.le_refl _)) (Nat.le_refl _)⟩
  case rest =>
    as_aux_lemma =>
    obtain ⟨rfl, k, rfl, hk, hxk, hbx⟩ := hcut
    clear kp
    have hsz2 : W.heap.size + 2 ≤ W2.heap.size := by have := blk_lt hx8; omega
    have hy6 := blk_below hx6 hbx
    have hy8 := blk_below hx8 hbx
    have hbw := below_step hbW hbx
    obtain ⟨w7, hw7⟩ : ∃ w7, (wc.setCell ⟨W.heap.size + 1, 1, none⟩ (.int .i64 s2)).setCell ⟨W.heap.size + 1, 2, none⟩ (.int .i64 u2) = w7 := ⟨_, rfl⟩
    have hb7 : Below W.heap.size W w7 := by rw [← hw7]; exact below_set (below_set hbw (Nat.le_succ _)) (Nat.le_succ _)
    have hx78 : w7.heap[W.heap.size + 1]? = some (.cells #[.int .i64 x.cls, .int .i64 s2, .int .i64 u2] 74 (0, 0)) := by rw [← hw7]; exact blk_put (blk_put hy8 1 _ rfl) 2 _ rfl
    have hx76 : w7.heap[W.heap.size]? = some (.cells #[.int .i64 0, .int .i64 0] 44 (0, 0)) := by rw [← hw7]; exact blk_far (blk_far hy6 (by show W.heap.size ≠ W.heap.size + 1; omega) _) (by show W.heap.size ≠ W.heap.size + 1; omega) _
    have hx7k : w7.heap[k]? = some (.cells #[.int .i64 s2, .int .i64 u2] 44 (0, 0)) := by rw [← hw7]; exact blk_far (blk_far hxk (by show k ≠ W.heap.size + 1; omega) _) (by show k ≠ W.heap.size + 1; omega) _
    have H7 := H0.out.step hb7
    have hjl : mj < W.heap.size := H0.out.j.lt
    obtain ⟨w8, hrun8, hM8, ht8⟩ := (H7.j.fr (F := fun _ => False) (fr_drew w7) (fun h => h)).store ekJc hc ⟨x.cls, s2, u2⟩ hi
    replace hrun8 : (Instr.mapUpdate 70 (.map (some mj)) (.int .i64 id) (.agg #[.int .i64 x.cls, .int .i64 s2, .int .i64 u2])).run Try.prog w7.drew = .ok () w8 := hrun8
    have hF8 : Fr (fun k => k = mj) w7 w8 := fr_trans (fr_drew w7) (Fr.of_turned ht8)
    have kp7 : Aside0 (∀ w', Fr (fun k => k = mj) w7 w' → w'.cell? ⟨G, 4, none⟩ = some (.map (some mj)) ∧ w'.cell? ⟨W.heap.size + 1, 0, none⟩ = some (.int .i64 x.cls) ∧ w'.cell? ⟨W.heap.size + 1, 1, none⟩ = some (.int .i64 s2) ∧ w'.cell? ⟨W.heap.size + 1, 2, none⟩ = some (.int .i64 u2)) := ⟨fun w' hf => ⟨hf.cell H7.c4 (fun e => H0.out.ng e.symm), hf.cell (cell_of_row w7 _ 0 _ 74 (0, 0) hx78) (by show ¬ W.heap.size + 1 = mj; omega), hf.cell (cell_of_row w7 _ 1 _ 74 (0, 0) hx78) (by show ¬ W.heap.size + 1 = mj; omega), hf.cell (cell_of_row w7 _ 2 _ 74 (0, 0) hx78) (by show ¬ W.heap.size + 1 = mj; omega)⟩⟩
    have hx8k := (hF8.blk k (blk_lt hx7k) (by show ¬ k = mj; omega)).trans hx7k
    have hx86 := (hF8.blk W.heap.size (blk_lt hx76) (by show ¬ W.heap.size = mj; omega)).trans hx76
    have hxkc := And.intro ((blk_cell hxk 0).trans rfl) ((blk_cell hxk 1).trans rfl)
    have c0k := hxkc.1
    have c1k := hxkc.2
    have d0k := (blk_cell hx8k 0).trans rfl
    have d1k := (blk_cell hx8k 1).trans rfl
    have fz1 := blk_frozen hy8 1
    have fz2 := blk_frozen hy8 2
    have fz8 := blk_frozen hx86 0
    have fz9 := blk_frozen hx86 1
    have r0 := (blk_cell hx86 0).trans rfl
    have r1 := (blk_cell hx86 1).trans rfl
    have l1 := (blk_cell hy8 1).trans rfl
    have l2 := (blk_cell hy8 2).trans rfl
    have hF8 := Aside0.mk hF8
    have hb7 := Aside0.mk hb7
    have hM8 := Aside0.mk hM8
    have hx86 := Aside0.mk hx86
    have hx8k := Aside0.mk hx8k
    have H7 := Aside0.mk H7
    clear hxk hy6 hy8 hx76 hx78 hx7k hxkc ht8 hbw hx6 hx8 hbx hbW
    go_upto_region 8 with (fail)
    clear hw7 c0k c1k fz1 fz2 l1 l2
    go_region_held3 (fun w' => w'.cell? ⟨G, 4, none⟩ = some (.map (some mj)) ∧ w'.cell? ⟨W.heap.size + 1, 0, none⟩ = some (.int .i64 x.cls) ∧ w'.cell? ⟨W.heap.size + 1, 1, none⟩ = some (.int .i64 s2) ∧ w'.cell? ⟨W.heap.size + 1, 2, none⟩ = some (.int .i64 u2)) (first | exact kp7.out _ (fr_drew _) | exact kp7.out _ hF8.out) (fail)
    have q4 : (s2 == 4) = false := beq_eq_false_iff_ne.2 h4
    have q5 : (s2 == 5) = false := beq_eq_false_iff_ne.2 h5
    go_wp2
    have hE : Fr (fun k => k = W.heap.size) w8 ((w8.setCell ⟨W.heap.size, 0, none⟩ (.int .i64 s2)).setCell ⟨W.heap.size, 1, none⟩ (.int .i64 u2)) := fr_trans (fr_set _ _ _ _) (fr_set _ _ _ _)
    refine step_ret (s := s2) (u := u2) (g := W.heap.size) rfl rfl (blk_put (blk_put hx86.out 0 _ rfl) 1 _ rfl) ⟨rfl, ⟨?_, Fr.then_ (fr_trans (Fr.of_below hb7.out) hF8.out) hE (fun b hb => .inr (Nat.le_of_eq hb.symm))⟩⟩
    have h9 := hM8.out.fr hE (by show ¬ mj = W.heap.size; omega)
    rw [HF.out] at h9
    exact h9
set_option maxHeartbeats 8000000 in
set_option maxRecDepth 100000 in
theorem step_end (h : RM N X W G B T mj ma mo ag rm tr ct last L f c Ls) (id what : Int) (hi : (Lit.int .i64 id).wf = true) (x : Jc) (hf : f id = some x) (s2 u2 : Int) (hS : S tr x.st x.us what = (s2, u2, true)) (h45 : s2 = 4 ∨ s2 = 5) (hc : c < maxLen) :
    Calls Try.prog 37 #[ptr G, .int .i64 id, .int .i64 what] W fun e w' => e = .returned (.tuple #[.agg #[.int .i64 s2, .int .i64 u2], .bool true]) ∧ Aside0 (MI eJc w' mj (upd f id none) (c - 1) ∧ Fr (fun k => k = mj) W w') := by
  have hb1 : Below W.heap.size W (W.alloc (.cells #[.int .i64 0, .int .i64 0] 44)) := below_alloc (Below.refl _ _) _
  have h1 := h.step hb1
  have c4 := h1.c4
  have hlook := h1.j.look ekJc hi 0
  rw [hf] at hlook
  replace hlook : (Instr.lookup 70 (.map (some mj)) (.int .i64 id) true).run Try.prog (W.alloc (.cells #[.int .i64 0, .int .i64 0] 44)) = .ok (.tuple #[.agg #[.int .i64 x.cls, .int .i64 x.st, .int .i64 x.us], .bool true]) (W.alloc (.cells #[.int .i64 0, .int .i64 0] 44)) := hlook
  have hSS := Aside0.mk hS
  have H0 := Aside0.mk h
  have H1 := Aside0.mk h1
  have HF := Aside0.mk hf
  clear h h1 hb1 hf hS
  go_enter Try.func37, Try.ntmps37
  go_upto_region 4 with (fail)
  generalize hW2 : ((W.alloc (.cells #[.int .i64 0, .int .i64 0] 44)).alloc (.cells #[.int .i64 x.cls, .int .i64 x.st, .int .i64 x.us] 74)) = W2
  have hbW : Below W.heap.size W W2 := by rw [← hW2]; exact below_alloc (below_alloc (Below.refl _ _) _) _
  have hb2 : Below (W.alloc (.cells #[.int .i64 0, .int .i64 0] 44)).heap.size (W.alloc (.cells #[.int .i64 0, .int .i64 0] 44)) W2 := by rw [← hW2]; exact below_alloc (Below.refl _ _) _
  have hx6 : W2.heap[W.heap.size]? = some (.cells #[.int .i64 0, .int .i64 0] 44 (0, 0)) := by rw [← hW2]; exact blk_below (blk_new _ _) (below_alloc (Below.refl _ _) _)
  have hx8 : W2.heap[W.heap.size + 1]? = some (.cells #[.int .i64 x.cls, .int .i64 x.st, .int .i64 x.us] 74 (0, 0)) := by
    have h3 := blk_new (W.alloc (.cells #[.int .i64 0, .int .i64 0] 44)) (.cells #[.int .i64 x.cls, .int .i64 x.st, .int .i64 x.us] 74)
    rw [hW2, show (W.alloc (.cells #[.int .i64 0, .int .i64 0] 44)).heap.size = W.heap.size + 1 from by simp] at h3
    exact h3
  have H2 := Aside0.mk (H1.out.step hb2)
  have kp : Aside0 (∀ w', Below W2.heap.size W2 w' → w'.cell? ⟨G, 2, none⟩ = some (.int .i64 tr) ∧ w'.cell? ⟨W.heap.size + 1, 1, none⟩ = some (.int .i64 x.st) ∧ w'.cell? ⟨W.heap.size + 1, 2, none⟩ = some (.int .i64 x.us)) := ⟨fun w' hb => ⟨(H2.out.step hb).c2, (blk_cell (blk_below hx8 hb) 1).trans rfl, (blk_cell (blk_below hx8 hb) 2).trans rfl⟩⟩
  clear hW2 H1 hb2 hlook c4
  go_cut [9, 10] (fun v9 v10 wx => v9 = .bool true ∧ ∃ k, v10 = ptr k ∧ W2.heap.size ≤ k ∧ wx.heap[k]? = some (.cells #[.int .i64 s2, .int .i64 u2] 44 (0, 0)) ∧ Below W2.heap.size W2 wx)
  case first =>
    as_aux_lemma =>
    go_region_held3 (fun w' => w'.cell? ⟨G, 2, none⟩ = some (.int .i64 tr) ∧ w'.cell? ⟨W.heap.size + 1, 1, none⟩ = some (.int .i64 x.st) ∧ w'.cell? ⟨W.heap.size + 1, 2, none⟩ = some (.int .i64 x.us)) (first | exact kp.out _ (below_drew1 (Below.refl _ _)) | exact kp.out _ (below_step (below_drew1 (Below.refl _ _)) hb5) | exact kp.out _ (below_alloc (below_step (below_drew1 (Below.refl _ _)) hb5) _) | exact kp.out _ (below_drew1 (below_alloc (Below.refl _ _) _)) | exact kp.out _ (below_step (below_drew1 (below_alloc (Below.refl _ _) _)) hb5) | exact kp.out _ (below_set (below_set (below_step (below_drew1 (below_alloc (Below.refl _ _) _)) hb5) (Nat.le_refl _)) (Nat.le_refl _))) (first | (go_at_call 61; refine (step_run _ _ _ _ _ _ _ hSS.out _).mono ?_; rintro e w5 ⟨rfl, hb5⟩; try (have hx9 := Aside0.mk (blk_below (show (W2.alloc (.cells #[.int .i64 0, .int .i64 0] 44)).drew.heap[W2.heap.size]? = _ from blk_new _ _) hb5); have hs0 := (blk_cell hx9.out 0).trans rfl; have hs1 := (blk_cell hx9.out 1).trans rfl; have hf0 := blk_frozen hx9.out 0; have hf1 := blk_frozen hx9.out 1)))
    · go_wp2_with (fail)
      go_meet
      exact ⟨rfl, _, rfl, hb5.size, blk_new _ _, below_alloc (below_step (below_drew1 (Below.refl _ _)) hb5) _⟩
    · go_wp2_with (fail)
      go_meet
      exact ⟨rfl, _, rfl, Nat.le_refl _, blk_put (blk_put hx9.out 0 _ rfl) 1 _ rfl, below_set (below_set (below_step (below_drew1 (below_alloc (Below.refl _ _) _)) hb5) (Nat.le_refl _)) (Nat.le_refl _)⟩
  case rest =>
    as_aux_lemma =>
    obtain ⟨rfl, k, rfl, hk, hxk, hbx⟩ := hcut
    clear kp
    have hsz2 : W.heap.size + 2 ≤ W2.heap.size := by have := blk_lt hx8; omega
    have hy6 := blk_below hx6 hbx
    have hy8 := blk_below hx8 hbx
    have hbw := below_step hbW hbx
    obtain ⟨w7, hw7⟩ : ∃ w7, (wc.setCell ⟨W.heap.size + 1, 1, none⟩ (.int .i64 s2)).setCell ⟨W.heap.size + 1, 2, none⟩ (.int .i64 u2) = w7 := ⟨_, rfl⟩
    have hb7 : Below W.heap.size W w7 := by rw [← hw7]; exact below_set (below_set hbw (Nat.le_succ _)) (Nat.le_succ _)
    have hx78 : w7.heap[W.heap.size + 1]? = some (.cells #[.int .i64 x.cls, .int .i64 s2, .int .i64 u2] 74 (0, 0)) := by rw [← hw7]; exact blk_put (blk_put hy8 1 _ rfl) 2 _ rfl
    have hx76 : w7.heap[W.heap.size]? = some (.cells #[.int .i64 0, .int .i64 0] 44 (0, 0)) := by rw [← hw7]; exact blk_far (blk_far hy6 (by show W.heap.size ≠ W.heap.size + 1; omega) _) (by show W.heap.size ≠ W.heap.size + 1; omega) _
    have hx7k : w7.heap[k]? = some (.cells #[.int .i64 s2, .int .i64 u2] 44 (0, 0)) := by rw [← hw7]; exact blk_far (blk_far hxk (by show k ≠ W.heap.size + 1; omega) _) (by show k ≠ W.heap.size + 1; omega) _
    have H7 := H0.out.step hb7
    have hjl : mj < W.heap.size := H0.out.j.lt
    obtain ⟨w8, hrun8, hM8, ht8⟩ := (H7.j.fr (F := fun _ => False) (fr_drew w7) (fun h => h)).store ekJc hc ⟨x.cls, s2, u2⟩ hi
    replace hrun8 : (Instr.mapUpdate 70 (.map (some mj)) (.int .i64 id) (.agg #[.int .i64 x.cls, .int .i64 s2, .int .i64 u2])).run Try.prog w7.drew = .ok () w8 := hrun8
    have hF8 : Fr (fun k => k = mj) w7 w8 := fr_trans (fr_drew w7) (Fr.of_turned ht8)
    have kp7 : Aside0 (∀ w', Fr (fun k => k = mj) w7 w' → w'.cell? ⟨G, 4, none⟩ = some (.map (some mj)) ∧ w'.cell? ⟨W.heap.size + 1, 0, none⟩ = some (.int .i64 x.cls) ∧ w'.cell? ⟨W.heap.size + 1, 1, none⟩ = some (.int .i64 s2) ∧ w'.cell? ⟨W.heap.size + 1, 2, none⟩ = some (.int .i64 u2)) := ⟨fun w' hf => ⟨hf.cell H7.c4 (fun e => H0.out.ng e.symm), hf.cell (cell_of_row w7 _ 0 _ 74 (0, 0) hx78) (by show ¬ W.heap.size + 1 = mj; omega), hf.cell (cell_of_row w7 _ 1 _ 74 (0, 0) hx78) (by show ¬ W.heap.size + 1 = mj; omega), hf.cell (cell_of_row w7 _ 2 _ 74 (0, 0) hx78) (by show ¬ W.heap.size + 1 = mj; omega)⟩⟩
    have hx8k := (hF8.blk k (blk_lt hx7k) (by show ¬ k = mj; omega)).trans hx7k
    have hx86 := (hF8.blk W.heap.size (blk_lt hx76) (by show ¬ W.heap.size = mj; omega)).trans hx76
    have hxkc := And.intro ((blk_cell hxk 0).trans rfl) ((blk_cell hxk 1).trans rfl)
    have c0k := hxkc.1
    have c1k := hxkc.2
    have d0k := (blk_cell hx8k 0).trans rfl
    have d1k := (blk_cell hx8k 1).trans rfl
    have fz1 := blk_frozen hy8 1
    have fz2 := blk_frozen hy8 2
    have fz8 := blk_frozen hx86 0
    have fz9 := blk_frozen hx86 1
    have r0 := (blk_cell hx86 0).trans rfl
    have r1 := (blk_cell hx86 1).trans rfl
    have l1 := (blk_cell hy8 1).trans rfl
    have l2 := (blk_cell hy8 2).trans rfl
    have hF8 := Aside0.mk hF8
    have hb7 := Aside0.mk hb7
    have hM8 := Aside0.mk hM8
    have hx86 := Aside0.mk hx86
    have hx8k := Aside0.mk hx8k
    have H7 := Aside0.mk H7
    clear hxk hy6 hy8 hx76 hx78 hx7k hxkc ht8 hbw hx6 hx8 hbx hbW
    go_upto_region 8 with (fail)
    clear hw7 c0k c1k fz1 fz2 l1 l2
    go_region_held3 (fun w' => w'.cell? ⟨G, 4, none⟩ = some (.map (some mj)) ∧ w'.cell? ⟨W.heap.size + 1, 0, none⟩ = some (.int .i64 x.cls) ∧ w'.cell? ⟨W.heap.size + 1, 1, none⟩ = some (.int .i64 s2) ∧ w'.cell? ⟨W.heap.size + 1, 2, none⟩ = some (.int .i64 u2)) (first | exact kp7.out _ (fr_drew _) | exact kp7.out _ hF8.out) (fail)
    obtain ⟨w9, hrun9, hM9, ht9⟩ := hM8.out.drop ekJc hi 0
    have hF9 := Fr.of_turned ht9
    have hx96 := Aside0.mk ((hF9.blk W.heap.size (blk_lt hx86.out) (by show ¬ W.heap.size = mj; omega)).trans hx86.out)
    have hx9k := (hF9.blk k (blk_lt hx8k.out) (by show ¬ k = mj; omega)).trans hx8k.out
    have g4 : w8.cell? ⟨G, 4, none⟩ = some (.map (some mj)) := (kp7.out w8 hF8.out).1
    have e0k := (blk_cell hx9k 0).trans rfl
    have e1k := (blk_cell hx9k 1).trans rfl
    have fz8 := blk_frozen hx96.out 0
    have fz9 := blk_frozen hx96.out 1
    have r0 := (blk_cell hx96.out 0).trans rfl
    have r1 := (blk_cell hx96.out 1).trans rfl
    have hE : Aside0 (Fr (fun k => k = W.heap.size) w9 ((w9.setCell ⟨W.heap.size, 0, none⟩ (.int .i64 s2)).setCell ⟨W.heap.size, 1, none⟩ (.int .i64 u2))) := ⟨fr_trans (fr_set _ _ _ _) (fr_set _ _ _ _)⟩
    have hF9 := Aside0.mk hF9
    have hM9 := Aside0.mk hM9
    clear ht9 hx9k kp7
    have hfin : Aside0 (MI eJc ((w9.setCell ⟨W.heap.size, 0, none⟩ (.int .i64 s2)).setCell ⟨W.heap.size, 1, none⟩ (.int .i64 u2)) mj (upd f id none) (c - 1) ∧ Fr (fun k => k = mj) W ((w9.setCell ⟨W.heap.size, 0, none⟩ (.int .i64 s2)).setCell ⟨W.heap.size, 1, none⟩ (.int .i64 u2))) := by
      refine ⟨?_, Fr.then_ (fr_trans (fr_trans (Fr.of_below hb7.out) hF8.out) hF9.out) hE.out (fun b hb => .inr (Nat.le_of_eq hb.symm))⟩
      have h9 := hM9.out.fr hE.out (by show ¬ mj = W.heap.size; omega)
      rw [HF.out, upd_same] at h9
      replace h9 : MI eJc _ mj _ (c - 1) := h9
      refine h9.congr (fun z => ?_)
      unfold upd
      by_cases e : z = id
      · rw [if_pos e, if_pos e]
      · rw [if_neg e, if_neg e, if_neg e]
    rcases h45 with rfl | rfl
    · go_wp2
      exact step_ret (s := 4) (u := u2) (g := W.heap.size) rfl rfl (blk_put (blk_put hx96.out 0 _ rfl) 1 _ rfl) ⟨rfl, hfin⟩
    · go_wp2
      exact step_ret (s := 5) (u := u2) (g := W.heap.size) rfl rfl (blk_put (blk_put hx96.out 0 _ rfl) 1 _ rfl) ⟨rfl, hfin⟩
end
end Go.Proofs.Ytfkebbkfmchnaaa.Bk

set_option linter.unusedVariables false
namespace Go.Proofs.Ytfkebbkfmchnaaa.Bk
open Go.RowKit Go.Maps Go.Proofs.Ytfkebbkfmchnaaa.PBase Go.Proofs.Ytfkebbkfmchnaaa.Cat Go.Proofs.Ytfkebbkfmchnaaa.Heap Go.Proofs.Ytfkebbkfmchnaaa.Ln Go.Proofs.Ytfkebbkfmchnaaa.Lst Go.Proofs.Ytfkebbkfmchnaaa.Mq Go.Proofs.YtfkebbkfmchnaaaW.PrintWords Go.Proofs.YtfkebbkfmchnaaaW.PrintLast Go.Proofs.YtfkebbkfmchnaaaW.PrintMore
/-- A book in memory; what may change: N and above, but for X. -/
structure BI (N : Nat) (X : Nat → Prop) (W : World) (G : Nat) (b : Book) : Prop where
  ex : ∃ B T mj ma mo, RM N X W G B T mj ma mo b.ag b.rm b.tr b.ct b.ct b.L (fun x => (lk jid b.Js x).map jc) b.Js.length b.Ls
  inv : Inv b
theorem BI.step {N : Nat} {X : Nat → Prop} {W W' : World} {G : Nat} {b : Book} (h : BI N X W G b) (hb : Below W.heap.size W W') : BI N X W' G b := by
  obtain ⟨⟨B, T, mj, ma, mo, h1⟩, h2⟩ := h
  exact ⟨⟨B, T, mj, ma, mo, h1.step hb⟩, h2⟩
theorem QI.sub {N : Nat} {X Y : Nat → Prop} {W : World} {B : Nat} {ag rm ct : Int} {L : List S77} (h : QI N X W B ag rm ct L) (hs : ∀ k, Y k → X k) : QI N Y W B ag rm ct L := by
  obtain ⟨⟨v, h1, h2⟩, h3⟩ := h
  exact ⟨⟨v, h1, fun k hk => h2 k (hs k hk)⟩, fun k hk => h3 k (hs k hk)⟩
/-! ### Results that lie in memory -/
/-- A lease as told. -/
abbrev lv (n j t u : Int) : Value := .agg #[.int .i64 n, .int .i64 j, .int .i64 0, .int .i64 0, .int .i64 t, .int .u64 u]
theorem lease_ret {Q : Ending → World → Prop} {tmps : Array Value} {W : World} {n j t u : Int} {b : Bool} {g : Nat} (hg : tmps.getD 4 undef = ptr g) (he : tmps.getD 5 undef = .bool b) (hb : W.heap[g]? = some (.cells #[.int .i64 n, .int .i64 j, .int .i64 0, .int .i64 0, .int .i64 t, .int .u64 u] 33 (0, 0))) (hQ : Q (.returned (.tuple #[lv n j t u, .bool b])) W) : bodyPost Try.prog Try.f20 Q Exit.ret { tmps := tmps, defers := [] } W :=
  bodyPost_ret (v := .tuple #[lv n j t u, .bool b]) (by rw [← he]; exact results_ct (fn := Try.f20) rfl tmps W g 33 _ (0, 0) _ hg hb Try.underlying33 rfl (by kernel_rfl)) rfl hQ
theorem fetch_ret {Q : Ending → World → Prop} {tmps : Array Value} {W : World} {n j t u : Int} {b : Int} {g : Nat} (hg : tmps.getD 4 undef = ptr g) (he : tmps.getD 5 undef = .int .i64 b) (hb : W.heap[g]? = some (.cells #[.int .i64 n, .int .i64 j, .int .i64 0, .int .i64 0, .int .i64 t, .int .u64 u] 33 (0, 0))) (hQ : Q (.returned (.tuple #[lv n j t u, .int .i64 b])) W) : bodyPost Try.prog Try.f12 Q Exit.ret { tmps := tmps, defers := [] } W :=
  bodyPost_ret (v := .tuple #[lv n j t u, .int .i64 b]) (by rw [← he]; exact results_ct (fn := Try.f12) rfl tmps W g 33 _ (0, 0) _ hg hb Try.underlying33 rfl (by kernel_rfl)) rfl hQ
theorem state_ret {Q : Ending → World → Prop} {tmps : Array Value} {W : World} {s u : Int} {b : Bool} {g : Nat} (hg : tmps.getD 4 undef = ptr g) (he : tmps.getD 5 undef = .bool b) (hb : W.heap[g]? = some (.cells #[.int .i64 s, .int .i64 u] 44 (0, 0))) (hQ : Q (.returned (.tuple #[.agg #[.int .i64 s, .int .i64 u], .bool b])) W) : bodyPost Try.prog Try.f18 Q Exit.ret { tmps := tmps, defers := [] } W :=
  bodyPost_ret (v := .tuple #[.agg #[.int .i64 s, .int .i64 u], .bool b]) (by rw [← he]; exact results_ct (fn := Try.f18) rfl tmps W g 44 _ (0, 0) _ hg hb Try.underlying44 rfl (by kernel_rfl)) rfl hQ
/-! ### At nil -/
/-! ### New -/
set_option maxHeartbeats 4000000 in
set_option maxRecDepth 100000 in
theorem bnew_good (ag rm tr : Int) (N : Nat) (W : World) (hN : N ≤ W.heap.size) (h1 : 1 ≤ ag ∧ ag ≤ 1000) (h2 : 0 ≤ rm ∧ rm ≤ 1000) (h3 : 0 ≤ tr ∧ tr ≤ 9) :
    Calls Try.prog 8 #[.int .i64 ag, .int .i64 rm, .int .i64 tr] W fun e w' => ∃ G, e = .returned (ptr G) ∧ Below W.heap.size W w' ∧ Aside0 (BI N (fun _ => False) w' G (b0 ag rm tr)) := by
  have hq := new_I ag rm N W hN ⟨h1, h2⟩
  have hmm := @run_makeMap Try.prog
  have HI := Aside0.mk (Inv.b0 h1 h2 h3)
  have k1 : ¬ tr < 0 := by omega
  have k2 : ¬ 9 < tr := by omega
  have HN := Aside0.mk hN
  clear h1 h2 h3 hN
  go_enter Try.func8, Try.ntmps8
  go_wp2_with (first
    | (go_at_call 33; refine hq.mono ?_; clear hq; rintro e w1 ⟨B, rfl, hb1, hq1⟩)
    | (go_at_call 34; refine (tnew_calls _).mono ?_; rintro e w2 ⟨T, ma, mo, rfl, hb2, ht2, hk2⟩))
  go_ret
  have hs3 : (w2.alloc (.map #[] 0)).heap.size = w2.heap.size + 1 := by simp
  have hb3 : Below w2.heap.size w2 (w2.alloc (.map #[] 0)) := below_alloc (Below.refl _ _) _
  generalize hw4 : (w2.alloc (.map #[] 0)).alloc (.cells #[ptr B, .int .i64 rm, .int .i64 tr, ptr T, .map (some w2.heap.size)] 72) = w4
  have hb4 : Below (w2.alloc (.map #[] 0)).heap.size (w2.alloc (.map #[] 0)) w4 := by rw [← hw4]; exact below_alloc (Below.refl _ _) _
  have hg4 : w4.heap[w2.heap.size + 1]? = some (.cells #[ptr B, .int .i64 rm, .int .i64 tr, ptr T, .map (some w2.heap.size)] 72 (0, 0)) := by
    have h := blk_new (w2.alloc (.map #[] 0)) (.cells #[ptr B, .int .i64 rm, .int .i64 tr, ptr T, .map (some w2.heap.size)] 72)
    rw [hw4, hs3] at h
    exact h
  have hs4 := blk_lt hg4
  have hb24 := below_step hb3 hb4
  have hb14 := below_step hb2 hb24
  have h12 := hb2.size
  have hNW := Nat.le_trans HN.out hb1.size
  have hka := hk2 ma (.inr (.inl rfl))
  have hko := hk2 mo (.inr (.inr rfl))
  have hkT := hk2 T (.inl rfl)
  have hin : ∀ k, BX (fun _ => False) (w2.heap.size + 1) T w2.heap.size ma mo k → w1.heap.size ≤ k ∧ k < w4.heap.size := by
    rintro k (h | rfl | rfl | h)
    · exact h.elim
    · omega
    · omega
    · have := hk2 k h; omega
  refine ⟨_, rfl, below_step hb1 hb14, ⟨⟨⟨B, T, w2.heap.size, ma, mo, ⟨hg4, ht2.step hb24, QI.sub (hq1.more hb14 hin) (fun k hk => .inr hk), ?_, fun k hk => ?_, by omega, by omega, by omega⟩⟩, HI.out⟩⟩⟩
  · exact ((MI.made eJc w2).fr (F := fun _ => False) (Fr.of_below hb4) (fun h => h)).congr (fun _ => rfl)
  · exact ⟨Nat.le_trans hNW (hin k (.inr hk)).1, fun h => h⟩
section
variable {N : Nat} {X : Nat → Prop} {W W' : World} {G : Nat} {b : Book}
/-! ### Open, Count, Waits, State, Lease -/
set_option maxHeartbeats 4000000 in
set_option maxRecDepth 100000 in
theorem open_B (h : BI N X W G b) : Calls Try.prog 11 #[ptr G] W fun e w' => e = .returned (.int .i64 (b.Js.length : Int)) ∧ Below W.heap.size W w' := by
  obtain ⟨⟨B, T, mj, ma, mo, h1⟩, h2⟩ := h
  have c4 := h1.c4
  have hl := h1.j.len ekJc 3
  clear h1 h2
  go_enter Try.func11, Try.ntmps11
  go_wp2
  go_ret
  exact ⟨rfl, Below.refl _ _⟩
set_option maxHeartbeats 4000000 in
set_option maxRecDepth 100000 in
theorem count_B (h : BI N X W G b) : Calls Try.prog 32 #[ptr G] W fun e w' => e = .returned (.int .i64 b.ct) ∧ BI N X w' G b ∧ Fr (KX N X) W w' := by
  obtain ⟨⟨B, T, mj, ma, mo, h1⟩, h2⟩ := h
  have c0 := h1.c0
  have hc := count_I h1.q
  have H1 := Aside0.mk h1
  have H2 := Aside0.mk h2
  clear h1 h2
  go_enter Try.func32, Try.ntmps32
  go_wp2_with (go_at_call 56; refine hc.mono ?_; rintro e w1 ⟨rfl, hq, hf⟩)
  go_ret
  obtain ⟨k1, k2⟩ := H1.out.queue hq hf
  exact ⟨rfl, ⟨⟨B, T, mj, ma, mo, k1⟩, H2.out⟩, k2⟩
set_option maxHeartbeats 4000000 in
set_option maxRecDepth 100000 in
theorem waits_B (h : BI N X W G b) (hl : b.L.length ≤ 90000) : Calls Try.prog 31 #[ptr G] W fun e w' => ∃ v0_ M, e = .returned v0_ ∧ M.Perm b.L ∧ Sorted b.ag M ∧ Kd.R k77 77 w' W.heap.size (fun _ => True) v0_ M ∧ Below W.heap.size W w' := by
  obtain ⟨⟨B, T, mj, ma, mo, h1⟩, h2⟩ := h
  have c0 := h1.c0
  have hc := list_I h1.q hl
  clear h1 h2
  go_enter Try.func31, Try.ntmps31
  go_wp2_with (go_at_call 55; refine hc.mono ?_; rintro e w1 ⟨v, M, rfl, k1, k2, k3, k4⟩)
  go_ret
  exact ⟨_, M, rfl, k1, k2, k3, k4⟩
set_option maxHeartbeats 4000000 in
set_option maxRecDepth 100000 in
theorem state_B (h : BI N X W G b) (id : Int) (hi : (Lit.int .i64 id).wf = true) (r : Option Jb) (hr : lk jid b.Js id = r) (s u : Int) (hs : ((r.map (fun j => j.st)).getD 0) = s) (hu : ((r.map (fun j => j.us)).getD 0) = u) (ok : Bool) (hok : r.isSome = ok) :
    Calls Try.prog 18 #[ptr G, .int .i64 id] W fun e w' => e = .returned (.tuple #[.agg #[.int .i64 s, .int .i64 u], .bool ok]) ∧ Below W.heap.size W w' := by
  obtain ⟨⟨B, T, mj, ma, mo, h1⟩, h2⟩ := h
  have hb1 : Below W.heap.size W (W.alloc (.cells #[.int .i64 0, .int .i64 0] 44)) := below_alloc (Below.refl _ _) _
  have hk := h1.step hb1
  have c4 := hk.c4
  obtain ⟨q, hq⟩ : ∃ q, ((r.map jc).map (fun x => x.cls)).getD 0 = q := ⟨_, rfl⟩
  have hlook := hk.j.look ekJc hi 0
  have e1 : eJc.val (((lk jid b.Js id).map jc).getD eJc.z) = .agg #[.int .i64 q, .int .i64 s, .int .i64 u] := by
    rw [hr, ← hs, ← hu, ← hq]
    cases r <;> rfl
  have e2 : ((lk jid b.Js id).map jc).isSome = ok := by rw [hr, Option.isSome_map]; exact hok
  rw [e1, e2] at hlook
  replace hlook : (Instr.lookup 70 (.map (some mj)) (.int .i64 id) true).run Try.prog (W.alloc (.cells #[.int .i64 0, .int .i64 0] 44)) = .ok (.tuple #[.agg #[.int .i64 q, .int .i64 s, .int .i64 u], .bool ok]) (W.alloc (.cells #[.int .i64 0, .int .i64 0] 44)) := hlook
  clear h1 h2 hk hb1 hr hs hu hq hok e1 e2
  go_enter Try.func18, Try.ntmps18
  go_wp2
  exact state_ret (g := W.heap.size) rfl rfl (blk_below (blk_new _ _) (below_alloc (Below.refl _ _) _)) ⟨rfl, below_alloc (below_alloc (Below.refl _ _) _) _⟩
end
end Go.Proofs.Ytfkebbkfmchnaaa.Bk

set_option linter.unusedVariables false
namespace Go.Proofs.Ytfkebbkfmchnaaa.Bk
open Go.RowKit Go.Maps Go.Proofs.Ytfkebbkfmchnaaa.PBase Go.Proofs.Ytfkebbkfmchnaaa.Cat Go.Proofs.Ytfkebbkfmchnaaa.Heap Go.Proofs.Ytfkebbkfmchnaaa.Ln Go.Proofs.Ytfkebbkfmchnaaa.Lst Go.Proofs.Ytfkebbkfmchnaaa.Mq Go.Proofs.YtfkebbkfmchnaaaW.PrintWords Go.Proofs.YtfkebbkfmchnaaaW.PrintLast Go.Proofs.YtfkebbkfmchnaaaW.PrintMore
section
variable {N : Nat} {X : Nat → Prop} {W W' : World} {G : Nat} {b : Book}
/-! ### Add -/
set_option maxHeartbeats 4000000 in
set_option maxRecDepth 100000 in
theorem add_arg (W : World) (G : Nat) (id cl : Int) (hc : ¬ (0 ≤ cl ∧ cl < 8)) : Calls Try.prog 9 #[ptr G, .int .i64 id, .int .i64 cl] W fun e w' => e = .returned (.int .i64 1) ∧ Below W.heap.size W w' := by
  by_cases h1 : cl < 0
  · clear hc
    go_enter Try.func9, Try.ntmps9
    go_wp2
    go_ret
    exact ⟨rfl, Below.refl _ _⟩
  · have h2 : 8 ≤ cl := by omega
    clear hc
    go_enter Try.func9, Try.ntmps9
    go_wp2
    go_ret
    exact ⟨rfl, Below.refl _ _⟩
set_option maxHeartbeats 4000000 in
set_option maxRecDepth 100000 in
theorem add_twice (h : BI N X W G b) (id cl : Int) (hi : (Lit.int .i64 id).wf = true) (hc : 0 ≤ cl ∧ cl < 8) (hin : id ∈ b.Js.map jid) : Calls Try.prog 9 #[ptr G, .int .i64 id, .int .i64 cl] W fun e w' => e = .returned (.int .i64 8) ∧ Below W.heap.size W w' := by
  obtain ⟨⟨B, T, mj, ma, mo, h1⟩, h2⟩ := h
  have c4 := h1.c4
  obtain ⟨x, hx⟩ : ∃ x, lk jid b.Js id = some x := Option.isSome_iff_exists.1 (lk_isSome.2 hin)
  have hlook := h1.j.look ekJc hi 0
  rw [hx] at hlook
  replace hlook : (Instr.lookup 70 (.map (some mj)) (.int .i64 id) true).run Try.prog W = .ok (.tuple #[.agg #[.int .i64 x.cls, .int .i64 x.st, .int .i64 x.us], .bool true]) W := hlook
  have k1 : ¬ cl < 0 := by omega
  have k2 : ¬ 8 ≤ cl := by omega
  clear h1 h2 hin hx hc
  go_enter Try.func9, Try.ntmps9
  go_wp2
  go_ret
  exact ⟨rfl, below_alloc (Below.refl _ _) _⟩
set_option maxHeartbeats 4000000 in
set_option maxRecDepth 100000 in
theorem add_full (h : BI N X W G b) (id cl : Int) (hi : (Lit.int .i64 id).wf = true) (hc : 0 ≤ cl ∧ cl < 8) (hin : id ∉ b.Js.map jid) (hl : b.rm ≤ (b.Js.length : Int)) : Calls Try.prog 9 #[ptr G, .int .i64 id, .int .i64 cl] W fun e w' => e = .returned (.int .i64 10) ∧ Below W.heap.size W w' := by
  obtain ⟨⟨B, T, mj, ma, mo, h1⟩, h2⟩ := h
  have c4 := h1.c4
  have hlook := h1.j.look ekJc hi 0
  rw [lk_none.2 hin] at hlook
  replace hlook : (Instr.lookup 70 (.map (some mj)) (.int .i64 id) true).run Try.prog W = .ok (.tuple #[.agg #[.int .i64 0, .int .i64 0, .int .i64 0], .bool false]) W := hlook
  have H1 := Aside0.mk h1
  have k1 : ¬ cl < 0 := by omega
  have k2 : ¬ 8 ≤ cl := by omega
  have H1 := Aside0.mk h1
  clear h1 h2 hin hc
  go_enter Try.func9, Try.ntmps9
  go_upto_region 6 with (fail)
  generalize hw2 : (W.alloc (.cells #[.int .i64 0, .int .i64 0, .int .i64 0] 74)) = w2
  have hbA : Below W.heap.size W w2 := by rw [← hw2]; exact below_alloc (Below.refl _ _) _
  have H2 := H1.out.step hbA
  have hln : ∀ a, (Builtin.len_ #[70] 3 #[.map (some mj)]).run Try.prog (w2.drewN a) = .ok (.int .i64 (b.Js.length : Int)) (w2.drewN a) := fun a => (H2.step (pw_below_drewN (Below.refl _ _) a)).j.len ekJc 3
  have e4 := H2.c4
  have e1 := H2.c1
  generalize (b.Js.length : Int) = n at hl hln
  generalize b.rm = m at hl e1
  clear H2 H1 hlook c4 hw2
  go_quiet (fail)
  go_wp2
  go_ret
  exact ⟨rfl, below_step hbA (pw_below_drewN (Below.refl _ _) nq)⟩
set_option maxHeartbeats 4000000 in
set_option maxRecDepth 100000 in
theorem add_ok (h : BI N X W G b) (id cl : Int) (hi : (Lit.int .i64 id).wf = true) (hE : addE b id cl = 0) : Calls Try.prog 9 #[ptr G, .int .i64 id, .int .i64 cl] W fun e w' => e = .returned (.int .i64 0) ∧ Aside0 (BI N X w' G (addB b id cl) ∧ Fr (KX N X) W w') := by
  obtain ⟨⟨B, T, mj, ma, mo, h1⟩, hI⟩ := h
  obtain ⟨hc, hin, hlt⟩ := addE_ok hE
  have c4 := h1.c4
  have hlook := h1.j.look ekJc hi 0
  rw [lk_none.2 hin] at hlook
  replace hlook : (Instr.lookup 70 (.map (some mj)) (.int .i64 id) true).run Try.prog W = .ok (.tuple #[.agg #[.int .i64 0, .int .i64 0, .int .i64 0], .bool false]) W := hlook
  have k1 : ¬ cl < 0 := by omega
  have k2 : ¬ 8 ≤ cl := by omega
  have H1 := Aside0.mk h1
  have HC := Aside0.mk (And.intro hE (And.intro hI (And.intro hin hlt)))
  clear h1 hE hI hin hlt hc
  go_enter Try.func9, Try.ntmps9
  go_upto_region 6 with (fail)
  obtain ⟨hE, hI, hin, hlt⟩ := HC.out
  generalize hw2 : (W.alloc (.cells #[.int .i64 0, .int .i64 0, .int .i64 0] 74)) = w2
  have hbA : Below W.heap.size W w2 := by rw [← hw2]; exact below_alloc (Below.refl _ _) _
  have H2 := H1.out.step hbA
  have hln : ∀ a, (Builtin.len_ #[70] 3 #[.map (some mj)]).run Try.prog (w2.drewN a) = .ok (.int .i64 (b.Js.length : Int)) (w2.drewN a) := fun a => (H2.step (pw_below_drewN (Below.refl _ _) a)).j.len ekJc 3
  have e4 := H2.c4
  have e1 := H2.c1
  have hnl : ¬ b.rm ≤ (b.Js.length : Int) := by omega
  have H2 := Aside0.mk H2
  have hbA := Aside0.mk hbA
  generalize (b.Js.length : Int) = n at hnl hln
  clear hw2 hlook c4 H1 hE hI hin hlt
  go_quiet (fail)
  clear hln e4 e1
  have hbB : Below w2.heap.size w2 (w2.drewN nq) := pw_below_drewN (Below.refl _ _) nq
  generalize w2.drewN nq = w2' at hbB
  obtain ⟨hE, hI, hin, hlt⟩ := HC.out
  have H2' := H2.out.step hbB
  have hbD := below_step hbA.out hbB
  have e4 := H2'.c4
  have hrm := hI.rm
  obtain ⟨w3, hrun3, hM3, ht3⟩ := H2'.j.store ekJc (by unfold maxLen; omega) ⟨cl, 1, 0⟩ hi
  replace hrun3 : (Instr.mapUpdate 70 (.map (some mj)) (.int .i64 id) (.agg #[.int .i64 cl, .int .i64 1, .int .i64 0])).run Try.prog w2' = .ok () w3 := hrun3
  obtain ⟨H3, hF3⟩ := H2'.open_ hM3 (Fr.of_turned ht3)
  have c30 := H3.c0
  have hl := hI.len
  obtain ⟨p1, p2⟩ := hI.add_put hE
  have hput := Aside0.mk (put_I H3.q id cl (by omega) 0 _ p1 p2)
  have H3 := Aside0.mk H3
  have HF := Aside0.mk (And.intro hF3 hbD)
  have hA := Aside0.mk (hI.add hE hi)
  have HIN := Aside0.mk (And.intro hI hin)
  clear HC H2' hin hE hlt hI hbB hbD hM3 ht3 hF3 hl p1 p2 hrm
  go_wp2_with (go_at_call 35; refine hput.out.mono ?_; rintro e w4 ⟨rfl, hq4, hf4⟩)
  go_ret
  obtain ⟨q1, q2⟩ := H3.out.queue hq4 hf4
  refine ⟨rfl, ⟨⟨⟨⟨B, T, mj, ma, mo, q1.congr (fun x => ?_) ?_ rfl⟩, hA.out⟩, (Fr.of_below HF.out.2).trans (HF.out.1.trans q2)⟩⟩⟩
  · show upd (fun x => (lk jid b.Js x).map jc) id _ x = (lk jid (b.Js ++ [_]) x).map jc
    rw [lk_snoc (κ := jid) b.Js ⟨id, cl, 1, 0⟩ x HIN.out.2]
    unfold upd
    by_cases e : x = id
    · rw [if_pos e, if_pos (show x = jid ⟨id, cl, 1, 0⟩ from e)]; rfl
    · rw [if_neg e, if_neg (show ¬ x = jid ⟨id, cl, 1, 0⟩ from e)]
  · show _ = (b.Js ++ [_]).length
    rw [lk_none.2 HIN.out.2]
    simp
theorem addE_cases (b : Book) (id cl : Int) : addE b id cl = 1 ∧ ¬ (0 ≤ cl ∧ cl < 8) ∨ addE b id cl = 8 ∧ (0 ≤ cl ∧ cl < 8) ∧ id ∈ b.Js.map jid ∨ addE b id cl = 10 ∧ (0 ≤ cl ∧ cl < 8) ∧ id ∉ b.Js.map jid ∧ b.rm ≤ (b.Js.length : Int) ∨ addE b id cl = 0 := by
  unfold addE
  by_cases h1 : 0 ≤ cl ∧ cl < 8
  · rw [if_neg (fun h => h h1)]
    by_cases h2 : id ∈ b.Js.map jid
    · rw [if_pos h2]; exact .inr (.inl ⟨rfl, h1, h2⟩)
    · rw [if_neg h2]
      by_cases h3 : b.rm ≤ (b.Js.length : Int)
      · rw [if_pos h3]; exact .inr (.inr (.inl ⟨rfl, h1, h2, h3⟩))
      · rw [if_neg h3]; exact .inr (.inr (.inr rfl))
  · rw [if_pos h1]; exact .inl ⟨rfl, h1⟩
def addT (b : Book) (id cl : Int) : Book := if addE b id cl = 0 then addB b id cl else b
theorem BI.go (h : BI N X W G b) (hb : Below W.heap.size W W') : BI N X W' G b ∧ Fr (KX N X) W W' := ⟨h.step hb, Fr.of_below hb⟩
theorem add_B (h : BI N X W G b) (id cl : Int) (hi : (Lit.int .i64 id).wf = true) (e1 : Int) (hE : addE b id cl = e1) (b2 : Book) (hb2 : addT b id cl = b2) : Calls Try.prog 9 #[ptr G, .int .i64 id, .int .i64 cl] W fun e w' => e = .returned (.int .i64 e1) ∧ Aside0 (BI N X w' G b2 ∧ Fr (KX N X) W w') := by
  subst hb2
  unfold addT
  rcases addE_cases b id cl with ⟨h0, h1⟩ | ⟨h0, h1, h2⟩ | ⟨h0, h1, h2, h3⟩ | h0
  · obtain rfl := h0.symm.trans hE
    rw [h0, if_neg (by decide)]
    refine (add_arg W G id cl h1).mono ?_
    rintro e w' ⟨rfl, hb⟩
    exact ⟨rfl, ⟨h.go hb⟩⟩
  · obtain rfl := h0.symm.trans hE
    rw [h0, if_neg (by decide)]
    refine (add_twice h id cl hi h1 h2).mono ?_
    rintro e w' ⟨rfl, hb⟩
    exact ⟨rfl, ⟨h.go hb⟩⟩
  · obtain rfl := h0.symm.trans hE
    rw [h0, if_neg (by decide)]
    refine (add_full h id cl hi h1 h2 h3).mono ?_
    rintro e w' ⟨rfl, hb⟩
    exact ⟨rfl, ⟨h.go hb⟩⟩
  · obtain rfl := h0.symm.trans hE
    rw [if_pos h0]
    exact add_ok h id cl hi h0
/-! ### Rested -/
theorem fld0 (a b c : Int) (w : World) : (Instr.field 74 (.agg #[.int .i64 a, .int .i64 b, .int .i64 c]) 0).run Try.prog w = .ok (.int .i64 a) w := by
  simp [Instr.field, run_underlying Try.underlying74, part, asAgg, go_sem]
theorem fld1 (a b c : Int) (w : World) : (Instr.field 74 (.agg #[.int .i64 a, .int .i64 b, .int .i64 c]) 1).run Try.prog w = .ok (.agg #[.int .i64 b, .int .i64 c]) w := by
  simp [Instr.field, run_underlying Try.underlying74, part, asAgg, go_sem]
theorem fld2 (b c : Int) (w : World) : (Instr.field 44 (.agg #[.int .i64 b, .int .i64 c]) 1).run Try.prog w = .ok (.int .i64 c) w := by
  simp [Instr.field, run_underlying Try.underlying44, part, asAgg, go_sem]
set_option maxHeartbeats 4000000 in
set_option maxRecDepth 100000 in
theorem rested_no (h : BI N X W G b) (id : Int) (hi : (Lit.int .i64 id).wf = true) (hn : ∀ j, lk jid b.Js id = some j → j.st ≠ 3) : Calls Try.prog 15 #[ptr G, .int .i64 id] W fun e w' => e = .returned (.bool false) ∧ Below W.heap.size W w' := by
  obtain ⟨⟨B, T, mj, ma, mo, h1⟩, hI⟩ := h
  have hst : Calls Try.prog 37 #[ptr G, .int .i64 id, .int .i64 4] W fun e w' => e = .returned (.tuple #[.agg #[.int .i64 0, .int .i64 0], .bool false]) ∧ Below W.heap.size W w' := by
    cases hx : lk jid b.Js id with
    | none => exact step_none h1 id 4 hi (by rw [hx]; rfl)
    | some j => exact step_bad h1 id 4 hi (jc j) (by rw [hx]; rfl) (S_norest (hn j hx))
  clear h1 hI hn
  go_enter Try.func15, Try.ntmps15
  go_wp2_with (go_at_call 37; refine hst.mono ?_; rintro e w4 ⟨rfl, hb4⟩)
  go_ret
  exact ⟨rfl, below_alloc hb4 _⟩
set_option maxHeartbeats 4000000 in
set_option maxRecDepth 100000 in
theorem rested_yes (h : BI N X W G b) (j : Jb) (hj : j ∈ b.Js) (hs : j.st = 3) : Calls Try.prog 15 #[ptr G, .int .i64 j.id] W fun e w' => e = .returned (.bool true) ∧ Aside0 (BI N X w' G (wakeB b j) ∧ Fr (KX N X) W w') := by
  obtain ⟨⟨B, T, mj, ma, mo, h1⟩, hI⟩ := h
  have hi := hI.wf j hj
  have hok := (hI.ok j hj).2
  have htr := hI.tr
  have hk : lk jid b.Js j.id = some j := lk_get hI.nd hj
  have hle := hI.le
  have hrm := hI.rm
  have hst := Aside0.mk (step_go h1 j.id 4 hi (jc j) (by show (lk jid b.Js j.id).map jc = _; rw [hk]; rfl) 1 j.us (by rw [show (jc j).st = 3 from hs]; exact S_rest htr (by show 1 ≤ j.us ∧ j.us ≤ _; omega)) (by decide) (by decide) (by unfold maxLen; omega))
  obtain ⟨p1, p2⟩ := hI.wake_put hj hs
  have hl := hI.len
  have HA := Aside0.mk (hI.wake hj hs)
  have H1 := Aside0.mk h1
  have HK := Aside0.mk hk
  clear hok htr hk h1
  go_enter Try.func15, Try.ntmps15
  go_upto_region 6 with (go_at_call 37; refine hst.out.mono ?_; rintro e w4 ⟨rfl, hg4⟩)
  generalize hw5 : (w4.alloc (.cells #[.int .i64 1, .int .i64 j.us] 44)) = w5
  have hb5 : Below w4.heap.size w4 w5 := by rw [← hw5]; exact below_alloc (Below.refl _ _) _
  have hD := below_drew1 hb5
  obtain ⟨H4, hF4⟩ := H1.out.open_ hg4.out.1 hg4.out.2
  have H5 := H4.step hD
  have e0 := H5.c0
  have e4 := H5.c4
  have hlook : (Instr.lookup 70 (.map (some mj)) (.int .i64 j.id) false).run Try.prog w5.drew = .ok (.agg #[.int .i64 j.cls, .int .i64 1, .int .i64 j.us]) w5.drew := by
    have h := H5.j.look1 ekJc hi 0
    rw [upd_same] at h
    exact h
  have hput := Aside0.mk (put_I H5.q j.id j.cls (by omega) 0 _ p1 p2)
  have H5 := Aside0.mk H5
  have HF := Aside0.mk (hF4.trans (Fr.of_below hD))
  have hfl := fld0 j.cls 1 j.us
  clear hw5 hg4 hb5 hD H4 hF4 hle hrm hl p1 p2 hs
  go_region_held3 (fun w' => w'.cell? ⟨G, 0, none⟩ = some (ptr B) ∧ w'.cell? ⟨G, 4, none⟩ = some (.map (some mj))) (first | exact ⟨e0, e4⟩ | exact ⟨(H5.out.queue hq6 hf6).1.c0, (H5.out.queue hq6 hf6).1.c4⟩) (first | (go_at_call 35; refine hput.out.mono ?_; rintro e w6 ⟨rfl, hq6, hf6⟩))
  go_wp2
  go_ret
  obtain ⟨q1, q2⟩ := H5.out.queue hq6 hf6
  refine ⟨rfl, ⟨⟨⟨⟨B, T, mj, ma, mo, q1.congr (fun x => ?_) ?_ rfl⟩, HA.out⟩, HF.out.trans q2⟩⟩⟩
  · show upd (fun x => (lk jid b.Js x).map jc) j.id _ x = (lk jid (setJ b.Js j.id 1 j.us) x).map jc
    rw [lk_setJ]
    unfold upd
    by_cases e : x = j.id
    · subst e
      rw [if_pos rfl, HK.out]
      show _ = some (jc (if j.id = j.id then _ else _))
      rw [if_pos rfl]
      rfl
    · rw [if_neg e]
      cases hx : lk jid b.Js x with
      | none =>
        show (lk jid b.Js x).map jc = _
        rw [hx]
        rfl
      | some k =>
        show (lk jid b.Js x).map jc = some (jc (if k.id = j.id then _ else _))
        rw [hx, if_neg (fun e2 => e (by rw [← (lk_mem hx).2]; exact e2))]
        rfl
  · show _ = (setJ b.Js j.id 1 j.us).length
    rw [setJ_len]
end
end Go.Proofs.Ytfkebbkfmchnaaa.Bk

set_option linter.unusedVariables false
namespace Go.Proofs.Ytfkebbkfmchnaaa.Bk
open Go.RowKit Go.Maps Go.Proofs.Ytfkebbkfmchnaaa.PBase Go.Proofs.Ytfkebbkfmchnaaa.Cat Go.Proofs.Ytfkebbkfmchnaaa.Heap Go.Proofs.Ytfkebbkfmchnaaa.Ln Go.Proofs.Ytfkebbkfmchnaaa.Lst Go.Proofs.Ytfkebbkfmchnaaa.Mq Go.Proofs.YtfkebbkfmchnaaaW.PrintWords Go.Proofs.YtfkebbkfmchnaaaW.PrintLast Go.Proofs.YtfkebbkfmchnaaaW.PrintMore
theorem upd_setJ {l : List Jb} {id s u : Int} {j : Jb} (h : lk jid l id = some j) (x : Int) : upd (fun x => (lk jid l x).map jc) id (some ⟨j.cls, s, u⟩) x = (lk jid (setJ l id s u) x).map jc := by
  rw [lk_setJ]
  unfold upd
  by_cases e : x = id
  · subst e
    rw [if_pos rfl, h]
    have h2 : j.id = x := (lk_mem h).2
    show _ = some (jc (if j.id = x then _ else _))
    rw [if_pos h2]
    rfl
  · rw [if_neg e]
    cases hx : lk jid l x with
    | none =>
      show (lk jid l x).map jc = _
      rw [hx]
      rfl
    | some k =>
      show (lk jid l x).map jc = some (jc (if k.id = id then _ else _))
      rw [hx, if_neg (fun e2 => e (by rw [← (lk_mem hx).2]; exact e2))]
      rfl
theorem upd_rm (l : List Jb) (id x : Int) : upd (fun x => (lk jid l x).map jc) id none x = (lk jid (rm jid l id) x).map jc := by
  rw [lk_rm]
  unfold upd
  by_cases e : x = id
  · rw [if_pos e, if_pos e]; rfl
  · rw [if_neg e, if_neg e]
section
variable {N : Nat} {X : Nat → Prop} {W W' : World} {G : Nat} {b : Book}
theorem Inv.rmlen (h : Inv b) {j : Jb} (hj : j ∈ b.Js) : b.Js.length - 1 = (Lst.rm jid b.Js j.id).length := by
  have := rm_len (κ := jid) h.nd (List.mem_map.2 ⟨j, hj, rfl⟩)
  show _ = (Lst.rm jid b.Js (jid j)).length
  omega
/-- The job of a lease. -/
theorem Inv.job (h : Inv b) {g : Gr} (hg : g ∈ b.Ls) : ∃ j, j ∈ b.Js ∧ j.id = g.j ∧ j.st = 2 ∧ lk jid b.Js g.j = some j ∧ 1 ≤ j.us ∧ j.us ≤ b.tr + 1 ∧ (Lit.int .i64 g.j).wf = true := by
  obtain ⟨_, _, j, hj, e, hs⟩ := h.g g hg
  have hok := (h.ok j hj).2
  refine ⟨j, hj, e, hs, ?_, by omega, by omega, e ▸ h.wf j hj⟩
  rw [← e]
  exact lk_get h.nd hj
/-! ### Drop -/
set_option maxHeartbeats 4000000 in
set_option maxRecDepth 100000 in
theorem bdrop_no (h : BI N X W G b) (id : Int) (hi : (Lit.int .i64 id).wf = true) (hin : id ∉ b.Js.map jid) : Calls Try.prog 17 #[ptr G, .int .i64 id] W fun e w' => e = .returned (.bool false) ∧ Below W.heap.size W w' := by
  obtain ⟨⟨B, T, mj, ma, mo, h1⟩, h2⟩ := h
  have c4 := h1.c4
  have hlook := h1.j.look ekJc hi 0
  rw [lk_none.2 hin] at hlook
  replace hlook : (Instr.lookup 70 (.map (some mj)) (.int .i64 id) true).run Try.prog W = .ok (.tuple #[.agg #[.int .i64 0, .int .i64 0, .int .i64 0], .bool false]) W := hlook
  clear h1 h2 hin
  go_enter Try.func17, Try.ntmps17
  go_wp2
  go_ret
  exact ⟨rfl, below_alloc (Below.refl _ _) _⟩
set_option maxHeartbeats 4000000 in
set_option maxRecDepth 100000 in
theorem bdrop_yes (h : BI N X W G b) (id : Int) (hi : (Lit.int .i64 id).wf = true) (hin : id ∈ b.Js.map jid) (hct : b.ct ≤ 1000000) : Calls Try.prog 17 #[ptr G, .int .i64 id] W fun e w' => e = .returned (.bool true) ∧ Aside0 (BI N X w' G (goneB b id) ∧ Fr (KX N X) W w') := by
  obtain ⟨⟨B, T, mj, ma, mo, h1⟩, hI⟩ := h
  obtain ⟨x, hx⟩ : ∃ x, lk jid b.Js id = some x := Option.isSome_iff_exists.1 (lk_isSome.2 hin)
  obtain ⟨hxm, hxi⟩ := lk_mem hx
  have c4 := h1.c4
  have hlook := h1.j.look ekJc hi 0
  rw [hx] at hlook
  replace hlook : (Instr.lookup 70 (.map (some mj)) (.int .i64 id) true).run Try.prog W = .ok (.tuple #[.agg #[.int .i64 x.cls, .int .i64 x.st, .int .i64 x.us], .bool true]) W := hlook
  have H1 := Aside0.mk h1
  have HI := Aside0.mk hI
  have HX := Aside0.mk (And.intro hx (And.intro hxm (show x.id = id from hxi)))
  have hl90 : Aside0 (b.L.length ≤ 90000) := ⟨by have := hI.len; have := hI.le; have := hI.rm; omega⟩
  clear h1 hI hx hxm hxi hin
  cases hg : lk gjo b.Ls id with
  | none =>
    have HG := Aside0.mk (rm_no (lk_none.1 hg))
    have hg := Aside0.mk hg
    go_enter Try.func17, Try.ntmps17
    go_upto_region 6 with (fail)
    generalize hw2 : (W.alloc (.cells #[.int .i64 x.cls, .int .i64 x.st, .int .i64 x.us] 74)) = w2
    have hb2 : Below W.heap.size W w2 := by rw [← hw2]; exact below_alloc (Below.refl _ _) _
    have H2 := H1.out.step hb2
    have e3 := H2.c3
    have hof := of_calls H2.t id hi none (by rw [hg.out]; rfl)
    have H2 := Aside0.mk H2
    have hb2 := Aside0.mk hb2
    clear hw2 hlook c4 H1
    go_upto_region 9 with (go_at_call 40; refine hof.mono ?_; clear hof; rintro e w3 ⟨rfl, hb3⟩)
    have H3 := H2.out.step hb3
    have e0 := H3.c0
    have hd := drop_I H3.q id hl90.out _ _ rfl rfl
    have H3 := Aside0.mk H3
    have hb3 := Aside0.mk (below_step hb2.out hb3)
    clear e3
    go_upto_region 10 with (go_at_call 41; refine hd.mono ?_; clear hd; rintro e w4 ⟨rfl, hq4, hf4⟩)
    obtain ⟨H4, hF4⟩ := H3.out.queue hq4 hf4
    have e4 := H4.c4
    obtain ⟨w5, hrun5, hM5, ht5⟩ := H4.j.drop ekJc hi 0
    obtain ⟨H5, hF5⟩ := H4.open_ hM5 (Fr.of_turned ht5)
    have H5 := Aside0.mk H5
    have hF := Aside0.mk ((Fr.of_below hb3.out).trans (hF4.trans hF5))
    clear e0 hq4 hf4 H4 hF4 hM5 ht5 hF5
    go_wp2
    go_ret
    refine ⟨rfl, ⟨⟨⟨B, T, mj, ma, mo, H5.out.congr (upd_rm b.Js id) ?_ HG.out.symm⟩, HI.out.gone id⟩, hF.out⟩⟩
    rw [HX.out.1, ← HX.out.2.2]
    exact HI.out.rmlen HX.out.2.1
  | some g =>
    obtain ⟨hgm, hgj⟩ := lk_mem hg
    have hgj : g.j = id := hgj
    have hgk := HI.out.g g hgm
    have hnw : (Lit.int .i64 g.n).wf = true := Go.WalkArith.wf_i64 (by omega)
    have hgn : lk gno b.Ls g.n = some g := lk_get (κ := gno) HI.out.gn hgm
    have hg := Aside0.mk hg
    have HG := Aside0.mk (And.intro hgn hgj)
    clear hgm hgk hgn hgj
    go_enter Try.func17, Try.ntmps17
    go_upto_region 6 with (fail)
    generalize hw2 : (W.alloc (.cells #[.int .i64 x.cls, .int .i64 x.st, .int .i64 x.us] 74)) = w2
    have hb2 : Below W.heap.size W w2 := by rw [← hw2]; exact below_alloc (Below.refl _ _) _
    have H2 := H1.out.step hb2
    have e3 := H2.c3
    have hof := of_calls H2.t id hi (some g.n) (by rw [hg.out]; rfl)
    have H2 := Aside0.mk H2
    have hb2 := Aside0.mk hb2
    clear hw2 hlook c4 H1
    go_upto_region 8 with (go_at_call 40; refine hof.mono ?_; clear hof; rintro e w3 ⟨rfl, hb3⟩)
    have H3 := H2.out.step hb3
    have e3' := H3.c3
    have hdr := drop_yes_calls H3.t HI.out.gn HI.out.gj g.n hnw g HG.out.1 (by rw [HG.out.2]; exact hi)
    rw [HG.out.2] at hdr
    have H3 := Aside0.mk H3
    have hb3 := Aside0.mk (below_step hb2.out hb3)
    clear e3
    go_upto_region 9 with (go_at_call 39; refine hdr.mono ?_; clear hdr; rintro e w3 ⟨rfl, hg3⟩)
    obtain ⟨H3', hF3⟩ := H3.out.table hg3.out.1 hg3.out.2
    have e0 := H3'.c0
    have hd := drop_I H3'.q id hl90.out _ _ rfl rfl
    have H3' := Aside0.mk H3'
    have hF3 := Aside0.mk hF3
    clear hg3 e3'
    go_upto_region 10 with (go_at_call 41; refine hd.mono ?_; clear hd; rintro e w4 ⟨rfl, hq4, hf4⟩)
    obtain ⟨H4, hF4⟩ := H3'.out.queue hq4 hf4
    have e4 := H4.c4
    obtain ⟨w5, hrun5, hM5, ht5⟩ := H4.j.drop ekJc hi 0
    obtain ⟨H5, hF5⟩ := H4.open_ hM5 (Fr.of_turned ht5)
    have H5 := Aside0.mk H5
    have hF := Aside0.mk ((Fr.of_below hb3.out).trans (hF3.out.trans (hF4.trans hF5)))
    clear e0 hq4 hf4 H4 hF4 hM5 ht5 hF5
    go_wp2
    go_ret
    refine ⟨rfl, ⟨⟨⟨B, T, mj, ma, mo, H5.out.congr (upd_rm b.Js id) ?_ rfl⟩, HI.out.gone id⟩, hF.out⟩⟩
    rw [HX.out.1, ← HX.out.2.2]
    exact HI.out.rmlen HX.out.2.1
/-! ### Answer -/
set_option maxHeartbeats 4000000 in
set_option maxRecDepth 100000 in
theorem answer_no (h : BI N X W G b) (n : Int) (hn : (Lit.int .i64 n).wf = true) (hg : lk gno b.Ls n = none) : Calls Try.prog 13 #[ptr G, .int .i64 n] W fun e w' => e = .returned (.tuple #[.int .i64 0, .int .i64 13]) ∧ Below W.heap.size W w' := by
  obtain ⟨⟨B, T, mj, ma, mo, h1⟩, hI⟩ := h
  have c3 := h1.c3
  have hdr := drop_no_calls h1.t n hn hg
  clear h1 hI hg
  go_enter Try.func13, Try.ntmps13
  go_wp2_with (go_at_call 39; refine hdr.mono ?_; rintro e w3 ⟨rfl, hb3⟩)
  go_ret2
  exact ⟨rfl, hb3⟩
set_option maxHeartbeats 4000000 in
set_option maxRecDepth 100000 in
theorem answer_yes (h : BI N X W G b) (n : Int) (hn : (Lit.int .i64 n).wf = true) (g : Gr) (hg : lk gno b.Ls n = some g) : Calls Try.prog 13 #[ptr G, .int .i64 n] W fun e w' => e = .returned (.tuple #[.int .i64 g.j, .int .i64 0]) ∧ Aside0 (BI N X w' G (goneB b g.j) ∧ Fr (KX N X) W w') := by
  obtain ⟨⟨B, T, mj, ma, mo, h1⟩, hI⟩ := h
  have c3 := h1.c3
  obtain ⟨j, hj, hji, hjs, hjk, hu1, hu2, hjw⟩ := hI.job (lk_mem hg).1
  have hdr := drop_yes_calls h1.t hI.gn hI.gj n hn g hg hjw
  have hdl := drop_no (ag := b.ag) (by rw [← hji]; exact hI.not_waits hj (by omega) : g.j ∉ ids b.L)
  have hlm : b.Js.length < maxLen := by have := hI.le; have := hI.rm; unfold maxLen; omega
  have H1 := Aside0.mk h1
  have HI := Aside0.mk hI
  have HJ := Aside0.mk (And.intro hj (And.intro hji (And.intro hjs hjk)))
  have hdl := Aside0.mk hdl
  clear h1 hI hj hji hjs hjk hg
  go_enter Try.func13, Try.ntmps13
  go_upto_region 6 with (go_at_call 39; refine hdr.mono ?_; clear hdr; rintro e w3 ⟨rfl, hg3⟩)
  obtain ⟨H3, hF3⟩ := H1.out.table hg3.out.1 hg3.out.2
  have hst := step_end H3 g.j 2 hjw (jc j) (by show (lk jid b.Js g.j).map jc = _; rw [HJ.out.2.2.2]; rfl) 4 j.us (by rw [show (jc j).st = 2 from HJ.out.2.2.1]; exact S_answer HI.out.tr ⟨hu1, hu2⟩) (.inl rfl) hlm
  have H3 := Aside0.mk H3
  have hF3 := Aside0.mk hF3
  clear hg3 c3
  go_wp2_with (go_at_call 37; refine hst.mono ?_; rintro e w4 ⟨rfl, hg4⟩)
  go_ret2
  obtain ⟨H4, hF4⟩ := H3.out.open_ hg4.out.1 hg4.out.2
  refine ⟨rfl, ⟨⟨⟨B, T, mj, ma, mo, ?_⟩, HI.out.gone g.j⟩, hF3.out.trans hF4⟩⟩
  show RM N X w4 G B T mj ma mo b.ag b.rm b.tr b.ct b.ct (dropL b.ag b.L g.j) _ _ _
  rw [hdl.out]
  exact H4.congr (upd_rm b.Js g.j) (by rw [← HJ.out.2.1]; exact HI.out.rmlen HJ.out.1) rfl
/-! ### Fail -/
set_option maxHeartbeats 4000000 in
set_option maxRecDepth 100000 in
theorem fail_no (h : BI N X W G b) (n : Int) (hn : (Lit.int .i64 n).wf = true) (hg : lk gno b.Ls n = none) : Calls Try.prog 14 #[ptr G, .int .i64 n] W fun e w' => e = .returned (.tuple #[.int .i64 0, .bool false, .int .i64 13]) ∧ Below W.heap.size W w' := by
  obtain ⟨⟨B, T, mj, ma, mo, h1⟩, hI⟩ := h
  have c3 := h1.c3
  have hdr := drop_no_calls h1.t n hn hg
  clear h1 hI hg
  go_enter Try.func14, Try.ntmps14
  go_wp2_with (go_at_call 39; refine hdr.mono ?_; rintro e w3 ⟨rfl, hb3⟩)
  go_ret3
  exact ⟨rfl, hb3⟩
/-- What Fail leaves. -/
def failB (b : Book) (g : Gr) : Book := if b.tr < usedOf b g.j then goneB b g.j else restB b g.j (usedOf b g.j)
set_option maxHeartbeats 8000000 in
set_option maxRecDepth 100000 in
theorem fail_yes (h : BI N X W G b) (n : Int) (hn : (Lit.int .i64 n).wf = true) (g : Gr) (hg : lk gno b.Ls n = some g) : Calls Try.prog 14 #[ptr G, .int .i64 n] W fun e w' => e = .returned (.tuple #[.int .i64 g.j, .bool (decide (b.tr < usedOf b g.j)), .int .i64 0]) ∧ Aside0 (BI N X w' G (failB b g) ∧ Fr (KX N X) W w') := by
  obtain ⟨⟨B, T, mj, ma, mo, h1⟩, hI⟩ := h
  have c3 := h1.c3
  obtain ⟨j, hj, hji, hjs, hjk, hu1, hu2, hjw⟩ := hI.job (lk_mem hg).1
  have hus : usedOf b g.j = j.us := by unfold usedOf; rw [hjk]; rfl
  have hdr := drop_yes_calls h1.t hI.gn hI.gj n hn g hg hjw
  have hdl := drop_no (ag := b.ag) (by rw [← hji]; exact hI.not_waits hj (by omega) : g.j ∉ ids b.L)
  have hlm : b.Js.length < maxLen := by have := hI.le; have := hI.rm; unfold maxLen; omega
  unfold failB
  rw [hus]
  have H1 := Aside0.mk h1
  have HI := Aside0.mk hI
  have HJ := Aside0.mk (And.intro hj (And.intro hji (And.intro hjs hjk)))
  have hdl := Aside0.mk hdl
  clear h1 hI hj hji hjs hjk hg
  by_cases hd : b.tr < j.us
  · rw [if_pos hd, decide_eq_true hd]
    have hS : S b.tr 2 j.us 3 = (5, j.us, true) := by rw [S_fail HI.out.tr ⟨hu1, hu2⟩, if_pos hd]
    have hd := Aside0.mk hd
    go_enter Try.func14, Try.ntmps14
    go_upto_region 6 with (go_at_call 39; refine hdr.mono ?_; clear hdr; rintro e w3 ⟨rfl, hg3⟩)
    obtain ⟨H3, hF3⟩ := H1.out.table hg3.out.1 hg3.out.2
    have hst := step_end H3 g.j 3 hjw (jc j) (by show (lk jid b.Js g.j).map jc = _; rw [HJ.out.2.2.2]; rfl) 5 j.us (by rw [show (jc j).st = 2 from HJ.out.2.2.1]; exact hS) (.inr rfl) hlm
    have H3 := Aside0.mk H3
    have hF3 := Aside0.mk hF3
    clear hg3 c3 hu1 hu2 hS
    go_upto_region 7 with (go_at_call 37; refine hst.mono ?_; clear hst; rintro e w4 ⟨rfl, hg4⟩)
    go_quiet (fail)
    go_wp2
    go_ret3
    obtain ⟨H4, hF4⟩ := H3.out.open_ hg4.out.1 hg4.out.2
    have hbz : Below w4.heap.size w4 ((w4.alloc (.cells #[.int .i64 5, .int .i64 j.us] 44)).drewN nq) := below_step (below_alloc (Below.refl _ _) _) (pw_below_drewN (Below.refl _ _) nq)
    refine ⟨rfl, ⟨⟨⟨B, T, mj, ma, mo, ?_⟩, HI.out.gone g.j⟩, (hF3.out.trans hF4).trans (Fr.of_below hbz)⟩⟩
    show RM N X _ G B T mj ma mo b.ag b.rm b.tr b.ct b.ct (dropL b.ag b.L g.j) _ _ _
    rw [hdl.out]
    exact (H4.step hbz).congr (upd_rm b.Js g.j) (by rw [← HJ.out.2.1]; exact HI.out.rmlen HJ.out.1) rfl
  · rw [if_neg hd, decide_eq_false hd]
    have hS : S b.tr 2 j.us 3 = (3, j.us, true) := by rw [S_fail HI.out.tr ⟨hu1, hu2⟩, if_neg hd]
    have hd := Aside0.mk hd
    go_enter Try.func14, Try.ntmps14
    go_upto_region 6 with (go_at_call 39; refine hdr.mono ?_; clear hdr; rintro e w3 ⟨rfl, hg3⟩)
    obtain ⟨H3, hF3⟩ := H1.out.table hg3.out.1 hg3.out.2
    have hst := step_go H3 g.j 3 hjw (jc j) (by show (lk jid b.Js g.j).map jc = _; rw [HJ.out.2.2.2]; rfl) 3 j.us (by rw [show (jc j).st = 2 from HJ.out.2.2.1]; exact hS) (by decide) (by decide) hlm
    have H3 := Aside0.mk H3
    have hF3 := Aside0.mk hF3
    clear hg3 c3 hu1 hu2 hS
    go_upto_region 7 with (go_at_call 37; refine hst.mono ?_; clear hst; rintro e w4 ⟨rfl, hg4⟩)
    go_quiet (fail)
    go_wp2
    go_ret3
    obtain ⟨H4, hF4⟩ := H3.out.open_ hg4.out.1 hg4.out.2
    have hbz : Below w4.heap.size w4 ((w4.alloc (.cells #[.int .i64 3, .int .i64 j.us] 44)).drewN nq) := below_step (below_alloc (Below.refl _ _) _) (pw_below_drewN (Below.refl _ _) nq)
    have hr := HI.out.rest HJ.out.1 HJ.out.2.2.1 (by have := hd.out; omega)
    rw [HJ.out.2.1] at hr
    exact ⟨rfl, ⟨⟨⟨B, T, mj, ma, mo, (H4.step hbz).congr (upd_setJ HJ.out.2.2.2) (setJ_len _ _ _ _).symm rfl⟩, hr⟩, (hF3.out.trans hF4).trans (Fr.of_below hbz)⟩⟩
end
end Go.Proofs.Ytfkebbkfmchnaaa.Bk

set_option linter.unusedVariables false
namespace Go.Proofs.Ytfkebbkfmchnaaa.Bk
open Go.RowKit Go.Maps Go.Proofs.Ytfkebbkfmchnaaa.PBase Go.Proofs.Ytfkebbkfmchnaaa.Cat Go.Proofs.Ytfkebbkfmchnaaa.Heap Go.Proofs.Ytfkebbkfmchnaaa.Ln Go.Proofs.Ytfkebbkfmchnaaa.Lst Go.Proofs.Ytfkebbkfmchnaaa.Mq Go.Proofs.YtfkebbkfmchnaaaW.PrintWords Go.Proofs.YtfkebbkfmchnaaaW.PrintLast Go.Proofs.YtfkebbkfmchnaaaW.PrintMore
section
variable {N : Nat} {X : Nat → Prop} {W W' : World} {G : Nat} {b : Book}
theorem Inv.llen (h : Inv b) : b.Ls.length ≤ b.Js.length := by
  have e1 : (b.Ls.map gjo).length = b.Ls.length := by simp
  have e0 : (b.Js.map jid).length = b.Js.length := by simp
  rw [← e1, ← e0]
  refine nd_len h.gj (fun x hx => ?_)
  obtain ⟨g, hg, rfl⟩ := List.mem_map.1 hx
  obtain ⟨_, _, j, hj, e, _⟩ := h.g g hg
  exact List.mem_map.2 ⟨j, hj, e⟩
section
variable {B T mj ma mo : Nat} {ag rm tr ct last : Int} {L : List S77} {f : Int → Option Jc} {c : Nat} {Ls : List Gr}
theorem RM.mem (h : RM N X W G B T mj ma mo ag rm tr ct last L f c Ls) (k : Nat) (hk : k = G ∨ k = mj ∨ TF T ma mo k) : k < W.heap.size := by
  rcases hk with rfl | rfl | rfl | rfl | rfl
  · exact h.glt
  · exact h.j.lt
  · exact h.t.lt
  · exact h.t.a.lt
  · exact h.t.o.lt
/-- New blocks are kept too. -/
theorem RM.more {Y : Nat → Prop} (h : RM N X W G B T mj ma mo ag rm tr ct last L f c Ls) (hb : Below W.heap.size W W') (hY : ∀ k, Y k → W.heap.size ≤ k ∧ k < W'.heap.size) : RM N (fun k => X k ∨ Y k) W' G B T mj ma mo ag rm tr ct last L f c Ls := by
  have h2 := h.step hb
  refine ⟨h2.g, h2.t, QI.sub (h.q.more hb hY) (fun k hk => ?_), h2.j, fun k hk => ⟨(h.lo k hk).1, ?_⟩, h.n1, h.n2, h.n3⟩
  · rcases hk with (hk | hk) | hk
    · exact .inl (.inl hk)
    · exact .inr hk
    · exact .inl (.inr hk)
  · rintro (hx | hy)
    · exact (h.lo k hk).2 hx
    · have h3 := h.mem k hk
      have h4 := (hY k hy).1
      omega
theorem RM.sub {Y : Nat → Prop} (h : RM N X W G B T mj ma mo ag rm tr ct last L f c Ls) (hs : ∀ k, Y k → X k) : RM N Y W G B T mj ma mo ag rm tr ct last L f c Ls :=
  ⟨h.g, h.t, QI.sub h.q (fun k hk => hk.imp (hs k) (fun h => h)), h.j, fun k hk => ⟨(h.lo k hk).1, fun e => (h.lo k hk).2 (hs k e)⟩, h.n1, h.n2, h.n3⟩
/-- X's blocks may change. -/
theorem RM.keep (h : RM N X W G B T mj ma mo ag rm tr ct last L f c Ls) (hf : Fr X W W') : RM N X W' G B T mj ma mo ag rm tr ct last L f c Ls :=
  ⟨(hf.blk G h.glt (h.lo G (.inl rfl)).2).trans h.g, h.t.fr hf (fun k hk => (h.lo k (.inr (.inr hk))).2), h.q.keep (hf.weak (fun k hk => .inl hk)), h.j.fr hf (h.lo mj (.inr (.inl rfl))).2, h.lo, h.n1, h.n2, h.n3⟩
end
theorem BI.keep (h : BI N X W G b) (hf : Fr X W W') : BI N X W' G b := by
  obtain ⟨⟨B, T, mj, ma, mo, h1⟩, h2⟩ := h
  exact ⟨⟨B, T, mj, ma, mo, h1.keep hf⟩, h2⟩
theorem fr_set6 (W : World) (g : Nat) (v0 v1 v2 v3 v4 v5 : Value) : Fr (fun k => k = g) W ((((((W.setCell ⟨g, 0, none⟩ v0).setCell ⟨g, 1, none⟩ v1).setCell ⟨g, 2, none⟩ v2).setCell ⟨g, 3, none⟩ v3).setCell ⟨g, 4, none⟩ v4).setCell ⟨g, 5, none⟩ v5) :=
  fr_trans (fr_trans (fr_trans (fr_trans (fr_trans (fr_set _ _ _ _) (fr_set _ _ _ _)) (fr_set _ _ _ _)) (fr_set _ _ _ _)) (fr_set _ _ _ _)) (fr_set _ _ _ _)
theorem store6 {ops : Array Oper} {o : Oper} {rest : List Oper} {a : Act} {Q : Exit → Act → World → Prop} {W : World} {g : Nat} (hg : o.guard = none) (p x : Operand) (ho : o.op = .store 33 p x) (hd : o.dst = none)
    (hp : a.eval p = ptr g) (n j t u : Int) (hx : a.eval x = lv n j t u) (hh : W.heap[g]? = some (.cells #[.int .i64 0, .int .i64 0, .int .i64 0, .int .i64 0, .int .i64 0, .int .u64 0] 33 (0, 0))) (h : ∀ w', w'.heap[g]? = some (.cells #[.int .i64 n, .int .i64 j, .int .i64 0, .int .i64 0, .int .i64 t, .int .u64 u] 33 (0, 0)) → Fr (fun k => k = g) W w' → wpList Try.prog ops Q rest (a.put none undef) w') :
    wpList Try.prog ops Q (o :: rest) a W := by
  refine wpList_plain hg fun K' hK' => ?_
  have hrun := run_store_run (P := Try.prog) (o := 0) 33 (lv n j t u) [.int .i64 n, .int .i64 j, .int .i64 0, .int .i64 0, .int .i64 t, .int .u64 u] hh rfl (by kernel_rfl) (Nat.le_refl 6) (by
    intro q hq
    simp only [List.mem_cons, List.not_mem_nil, or_false] at hq
    rcases hq with rfl | rfl | rfl | rfl | rfl | rfl <;> rfl)
  unfold Oper.wp execOp
  simp only [ho, hp, hx, Sem.run_bind, Sem.run_pure, Result.andThen_ok, hrun]
  show K' (a.put o.dst undef) _
  rw [hd]
  exact hK' _ _ (h _ (blk_put (blk_put (blk_put (blk_put (blk_put (blk_put hh 0 _ rfl) 1 _ rfl) 2 _ rfl) 3 _ rfl) 4 _ rfl) 5 _ rfl) (fr_set6 _ _ _ _ _ _ _ _))
theorem BI.more {Y : Nat → Prop} (h : BI N X W G b) (hb : Below W.heap.size W W') (hY : ∀ k, Y k → W.heap.size ≤ k ∧ k < W'.heap.size) : BI N (fun k => X k ∨ Y k) W' G b := by
  obtain ⟨⟨B, T, mj, ma, mo, h1⟩, h2⟩ := h
  exact ⟨⟨B, T, mj, ma, mo, h1.more hb hY⟩, h2⟩
theorem BI.sub {Y : Nat → Prop} (h : BI N X W G b) (hs : ∀ k, Y k → X k) : BI N Y W G b := by
  obtain ⟨⟨B, T, mj, ma, mo, h1⟩, h2⟩ := h
  exact ⟨⟨B, T, mj, ma, mo, h1.sub hs⟩, h2⟩
theorem kx_sub {N : Nat} {X Y : Nat → Prop} (hs : ∀ k, Y k → X k) (k : Nat) (h : KX N X k) : KX N Y k := ⟨h.1, fun e => h.2 (hs k e)⟩
theorem below_step_fr {W w w' : World} (h : Below W.heap.size W w) (hf : Fr (fun k => k = W.heap.size) w w') : Below W.heap.size W w' := (Fr.then_ (Fr.of_below (F := fun _ => False) h) hf (fun b hb => .inr (Nat.le_of_eq hb.symm))).below (Nat.le_refl _) (fun k h => h.elim)
abbrev zl : Obj := .cells #[.int .i64 0, .int .i64 0, .int .i64 0, .int .i64 0, .int .i64 0, .int .u64 0] 33
/-! ### Lease -/
set_option maxHeartbeats 4000000 in
set_option maxRecDepth 100000 in
theorem lease_no (h : BI N X W G b) (n : Int) (hn : (Lit.int .i64 n).wf = true) (hg : lk gno b.Ls n = none) : Calls Try.prog 20 #[ptr G, .int .i64 n] W fun e w' => e = .returned (.tuple #[lv 0 0 0 0, .bool false]) ∧ Below W.heap.size W w' := by
  obtain ⟨⟨B, T, mj, ma, mo, h1⟩, hI⟩ := h
  have hb1 : Below W.heap.size W (W.alloc zl) := below_alloc (Below.refl _ _) _
  have h2 := h1.step hb1
  have c3 := h2.c3
  have hlk := look_calls h2.t n hn ⟨0, 0, 0⟩ (by rw [hg]; rfl) false (by rw [hg]; rfl)
  have hx := blk_new W zl
  have hb1 := Aside0.mk hb1
  have HX := Aside0.mk hx
  clear h1 h2 hI hg hx
  go_enter Try.func20, Try.ntmps20
  go_upto_region 5 with (go_at_call 42; refine hlk.mono ?_; clear hlk; rintro e w1 ⟨rfl, hbz⟩)
  generalize hw2 : w1.alloc (.cells #[.int .i64 0, .int .i64 0, .int .u64 0] 85) = w2
  have hb2 : Below w1.heap.size w1 w2 := by rw [← hw2]; exact below_alloc (Below.refl _ _) _
  have hx2 := blk_below (blk_below HX.out hbz) hb2
  have s0 := (blk_cell hx2 0).trans rfl
  have s1 := (blk_cell hx2 1).trans rfl
  have s2 := (blk_cell hx2 2).trans rfl
  have s3 := (blk_cell hx2 3).trans rfl
  have s4 := (blk_cell hx2 4).trans rfl
  have s5 := (blk_cell hx2 5).trans rfl
  have f0 := blk_frozen hx2 0
  have f1 := blk_frozen hx2 1
  have f2 := blk_frozen hx2 2
  have f3 := blk_frozen hx2 3
  have f4 := blk_frozen hx2 4
  have f5 := blk_frozen hx2 5
  have hx2 := Aside0.mk hx2
  have hbb := Aside0.mk (below_step (below_step hb1.out hbz) hb2)
  clear hw2 hbz hb2 c3
  go_wp2
  exact lease_ret (g := W.heap.size) rfl rfl (blk_put (blk_put (blk_put (blk_put (blk_put (blk_put hx2.out 0 _ rfl) 1 _ rfl) 2 _ rfl) 3 _ rfl) 4 _ rfl) 5 _ rfl) ⟨rfl, below_set (below_set (below_set (below_set (below_set (below_set hbb.out (Nat.le_refl _)) (Nat.le_refl _)) (Nat.le_refl _)) (Nat.le_refl _)) (Nat.le_refl _)) (Nat.le_refl _)⟩
set_option maxHeartbeats 8000000 in
set_option maxRecDepth 100000 in
theorem lease_yes (h : BI N X W G b) (n : Int) (hn : (Lit.int .i64 n).wf = true) (g : Gr) (hg : lk gno b.Ls n = some g) (us : Int) (hus : usedOf b g.j = us) : Calls Try.prog 20 #[ptr G, .int .i64 n] W fun e w' => e = .returned (.tuple #[lv g.n g.j us g.u, .bool true]) ∧ Below W.heap.size W w' := by
  obtain ⟨⟨B, T, mj, ma, mo, h1⟩, hI⟩ := h
  obtain ⟨j, hj, hji, hjs, hjk, hu1, hu2, hjw⟩ := hI.job (lk_mem hg).1
  have hju : j.us = us := by rw [← hus]; unfold usedOf; rw [hjk]; rfl
  have hb1 : Below W.heap.size W (W.alloc zl) := below_alloc (Below.refl _ _) _
  have h2 := h1.step hb1
  have c3 := h2.c3
  have hlk := look_calls h2.t n hn g (by rw [hg]; rfl) true (by rw [hg]; rfl)
  have hx := blk_new W zl
  have H2 := Aside0.mk h2
  have hb1 := Aside0.mk hb1
  have HX := Aside0.mk hx
  have HJ := Aside0.mk (And.intro hjk hju)
  clear h1 h2 hI hg hx hj hji hjs hjk hu1 hu2 hju hus
  go_enter Try.func20, Try.ntmps20
  go_upto_region 6 with (go_at_call 42; refine hlk.mono ?_; clear hlk; rintro e w1 ⟨rfl, hbz⟩)
  generalize hw2 : w1.alloc (.cells #[.int .i64 g.n, .int .i64 g.j, .int .u64 g.u] 85) = w2
  have hb2 : Below w1.heap.size w1 w2 := by rw [← hw2]; exact below_alloc (Below.refl _ _) _
  have hx2 := blk_below (blk_below HX.out hbz) hb2
  have hy2 : w2.heap[w1.heap.size]? = some (.cells #[.int .i64 g.n, .int .i64 g.j, .int .u64 g.u] 85 (0, 0)) := by rw [← hw2]; exact blk_new _ _
  have hbb := below_step hbz hb2
  have H3 := H2.out.step hbb
  have hWl : W.heap.size < w1.heap.size := Nat.lt_of_lt_of_le (blk_lt HX.out) hbz.size
  have hGl := H2.out.glt
  have hGne : G ≠ W.heap.size := by
    intro e
    have h5 := H2.out.g
    rw [e, HX.out] at h5
    injection h5 with h5
    injection h5 with h5 h6
    exact absurd h6 (by decide)
  have hl0 : ∀ a, (Instr.lookup 70 (.map (some mj)) (.int .i64 g.j) false).run Try.prog (w2.drewN a) = .ok (.agg #[.int .i64 j.cls, .int .i64 j.st, .int .i64 us]) (w2.drewN a) := fun a => by
    have h := H3.j.look1 ekJc hjw a
    rw [show (lk jid b.Js g.j).map jc = some (jc j) from by rw [HJ.out.1]; rfl] at h
    rw [← HJ.out.2]
    exact h
  have hlook : (Instr.lookup 70 (.map (some mj)) (.int .i64 g.j) false).run Try.prog w2 = .ok (.agg #[.int .i64 j.cls, .int .i64 j.st, .int .i64 us]) w2 := hl0 0
  have hlook1 : (Instr.lookup 70 (.map (some mj)) (.int .i64 g.j) false).run Try.prog w2.drew = .ok (.agg #[.int .i64 j.cls, .int .i64 j.st, .int .i64 us]) w2.drew := hl0 1
  have fl1 := fld1 j.cls j.st us
  have fl2 := fld2 j.st us
  have g4 := H3.c4
  have y0 := (blk_cell hy2 0).trans rfl
  have y1 := (blk_cell hy2 1).trans rfl
  have y2 := (blk_cell hy2 2).trans rfl
  have hx2 : Aside0 (w2.drew.heap[W.heap.size]? = some (.cells #[.int .i64 0, .int .i64 0, .int .i64 0, .int .i64 0, .int .i64 0, .int .u64 0] 33 (0, 0))) := ⟨hx2⟩
  have hbb := Aside0.mk (below_drew1 (below_step (below_step hb1.out hbz) hb2))
  clear hw2 hbz hb2 c3 hy2 H3 H2 hWl hGl hGne hl0
  go_still_tail 16, (by kernel_rfl)
  change wpList _ _ _ _ _ w2.drew
  refine store6 rfl (.tmp 4) (.tmp 38) rfl rfl rfl g.n g.j us g.u rfl hx2.out ?_
  intro w6 hx6 hf6
  go_wp2
  exact lease_ret (g := W.heap.size) rfl rfl hx6 ⟨rfl, below_step_fr hbb.out hf6⟩
/-! ### Fetch -/
set_option maxHeartbeats 8000000 in
set_option maxRecDepth 100000 in
theorem fetch_no (h : BI N X W G b) (un : Int) (h0 : b.L = []) : Calls Try.prog 12 #[ptr G, .int .u64 un] W fun e w' => e = .returned (.tuple #[lv 0 0 0 0, .int .i64 12]) ∧ Aside0 (BI N X w' G b ∧ Fr (KX N X) W w') := by
  obtain ⟨⟨B, T, mj, ma, mo, h1⟩, hI⟩ := h
  have hb1 : Below W.heap.size W (W.alloc zl) := below_alloc (Below.refl _ _) _
  have h2 := h1.more (Y := fun k => k = W.heap.size) hb1 (fun k hk => ⟨Nat.le_of_eq hk.symm, by rw [hk]; simp⟩)
  have c0 := h2.c0
  have hq := h2.q
  rw [h0] at hq
  have htk := empty_I hq
  have hx := blk_new W zl
  have H2 := Aside0.mk h2
  have hb1 := Aside0.mk hb1
  have HX := Aside0.mk hx
  have HI := Aside0.mk hI
  have H0 := Aside0.mk h0
  clear h1 h2 hI hx h0 hq
  go_enter Try.func12, Try.ntmps12
  go_upto_region 5 with (go_at_call 36; refine htk.mono ?_; clear htk; rintro e w1 ⟨rfl, hq1, hf1⟩)
  generalize hw2 : w1.alloc (.cells #[.int .i64 0, .int .i64 0, .int .i64 0] 77) = w2
  have hb2 : Below w1.heap.size w1 w2 := by rw [← hw2]; exact below_alloc (Below.refl _ _) _
  rw [← H0.out] at hq1
  obtain ⟨H3, hF3⟩ := H2.out.queue hq1 hf1
  have hx1 := (hf1.blk W.heap.size (blk_lt HX.out) (fun e => e.2 (.inl (.inr rfl)))).trans HX.out
  have hx2 := blk_below hx1 hb2
  have s0 := (blk_cell hx2 0).trans rfl
  have f0 := blk_frozen hx2 0
  have s1 := (blk_cell hx2 1).trans rfl
  have f1 := blk_frozen hx2 1
  have s2 := (blk_cell hx2 2).trans rfl
  have f2 := blk_frozen hx2 2
  have s3 := (blk_cell hx2 3).trans rfl
  have f3 := blk_frozen hx2 3
  have s4 := (blk_cell hx2 4).trans rfl
  have f4 := blk_frozen hx2 4
  have s5 := (blk_cell hx2 5).trans rfl
  have f5 := blk_frozen hx2 5
  have hx2 := Aside0.mk hx2
  have H3 := Aside0.mk (H3.step hb2)
  have hbe := Aside0.mk ((Fr.of_below hb1.out).trans ((hF3.weak (kx_sub (fun k hk => .inl hk))).trans (Fr.of_below hb2)))
  clear hw2 hb2 c0 hq1 hf1 hF3 hx1
  go_wp2
  have hE := fr_set6 w2 W.heap.size (.int .i64 0) (.int .i64 0) (.int .i64 0) (.int .i64 0) (.int .i64 0) (.int .u64 0)
  exact fetch_ret (g := W.heap.size) rfl rfl ((blk_put (blk_put (blk_put (blk_put (blk_put (blk_put hx2.out 0 _ rfl) 1 _ rfl) 2 _ rfl) 3 _ rfl) 4 _ rfl) 5 _ rfl)) ⟨rfl, ⟨⟨⟨B, T, mj, ma, mo, (H3.out.keep (hE.weak (fun k hk => .inr hk))).sub (fun k hk => .inl hk)⟩, HI.out⟩, Fr.then_ hbe.out hE (fun b hb => .inr (Nat.le_of_eq hb.symm))⟩⟩
set_option maxHeartbeats 8000000 in
set_option maxRecDepth 100000 in
theorem fetch_yes (h : BI N X W G b) (un : Int) (h0 : 0 < b.L.length) (hct : b.ct ≤ 100000) (us : Int) (hus : usedOf b (fetchJ b).f0 = us) (c1 : Int) (hc1 : b.ct + 1 = c1) :
    Calls Try.prog 12 #[ptr G, .int .u64 un] W fun e w' => e = .returned (.tuple #[lv c1 (fetchJ b).f0 (us + 1) un, .int .i64 0]) ∧ Aside0 (BI N X w' G (fetchB b un) ∧ Fr (KX N X) W w') := by
  obtain ⟨⟨B, T, mj, ma, mo, h1⟩, hI⟩ := h
  obtain ⟨hxm, j, hj, hji, hjc, hjs, hjk⟩ := hI.first h0
  have hju : j.us = us := by rw [← hus]; unfold usedOf; rw [hjk]; rfl
  have hok := (hI.ok j hj).2
  have hct0 := hI.ct
  have hjw : (Lit.int .i64 (fetchJ b).f0).wf = true := by rw [← hji]; exact hI.wf j hj
  have hnl : (fetchJ b).f0 ∉ b.Ls.map gjo := by rw [← hji]; exact hI.no_lease hj (by omega)
  have hnn : c1 ∉ b.Ls.map gno := by
    intro hx
    obtain ⟨g, hg, e⟩ := List.mem_map.1 hx
    have := (hI.g g hg).2.1
    have e : g.n = c1 := e
    omega
  have hll := hI.llen
  have hle := hI.le
  have hrm := hI.rm
  have hlm : b.Js.length < maxLen := by unfold maxLen; omega
  have hll2 : b.Ls.length ≤ 1000000 := by omega
  have hl90 : b.L.length ≤ 90000 := by have := hI.len; omega
  have hS : S b.tr 1 j.us 1 = (2, us + 1, true) := by rw [← hju]; exact S_fetch hI.tr (by omega)
  have hw : IntKind.i64.wrap (b.ct + 1) = c1 := by rw [i64_w, hc1]; unfold wrap64; omega
  have hIF := Aside0.mk (hI.fetch h0 un)
  have hcw : (Lit.int .i64 c1).wf = true := Go.WalkArith.wf_i64 (by omega)
  have hb1 : Below W.heap.size W (W.alloc zl) := below_alloc (Below.refl _ _) _
  have h2 := h1.more (Y := fun k => k = W.heap.size) hb1 (fun k hk => ⟨Nat.le_of_eq hk.symm, by rw [hk]; simp⟩)
  have c0 := h2.c0
  obtain ⟨x, hx0⟩ : ∃ x, fetchJ b = x := ⟨_, rfl⟩
  have htk := take_I h2.q h0 hl90 c1 hw x hx0 (removeL b.ag b.L 0) rfl
  have hbox := blk_new W zl
  have H2 := Aside0.mk h2
  have hb1 := Aside0.mk hb1
  have HX := Aside0.mk hbox
  have HJ := Aside0.mk (And.intro hj (And.intro hji (And.intro hjs hjk)))
  have HN := Aside0.mk (And.intro hnl (And.intro hnn (And.intro hct0 (And.intro hct (And.intro hlm hll2)))))
  have HS := Aside0.mk hS
  have HC := Aside0.mk (And.intro hc1 hcw)
  have HU := Aside0.mk (And.intro hus hju)
  have HW := Aside0.mk hjw
  have HI := Aside0.mk hI
  have hX0 := Aside0.mk hx0
  have key : Aside0 (∀ w', Aside0 (BI N X w' G (fetchB b un) ∧ Fr (KX N X) W w') → Aside0 (BI N X w' G (fetchB b un) ∧ Fr (KX N X) W w')) := ⟨fun _ h => h⟩
  rw [hx0]
  clear h1 hI hxm hj hji hjc hjs hjk hju hok hct0 hjw hnl hnn hll hle hrm hlm hll2 hl90 hS hw hcw h2 hbox h0 hct hus hc1 hx0
  go_enter Try.func12, Try.ntmps12
  go_upto_region 6 with (go_at_call 36; refine htk.mono ?_; clear htk; rintro e w1 ⟨rfl, hq1, hf1⟩)
  generalize hw2 : w1.alloc (.cells #[.int .i64 x.f0, .int .i64 x.f1, .int .i64 x.f2] 77) = w2
  have hb2 : Below w1.heap.size w1 w2 := by rw [← hw2]; exact below_alloc (Below.refl _ _) _
  have hy2 : w2.heap[w1.heap.size]? = some (.cells #[.int .i64 x.f0, .int .i64 x.f1, .int .i64 x.f2] 77 (0, 0)) := by rw [← hw2]; exact blk_new _ _
  obtain ⟨H3', hF3⟩ := H2.out.queue hq1 hf1
  have H3 := H3'.step hb2
  have hjw : (Lit.int .i64 x.f0).wf = true := by rw [← hX0.out]; exact HW.out
  have hjk : lk jid b.Js x.f0 = some j := by rw [← hX0.out]; exact HJ.out.2.2.2
  have hst := step_go H3 x.f0 1 hjw (jc j) (by show (lk jid b.Js x.f0).map jc = _; rw [hjk]; rfl) 2 (us + 1) (by rw [show (jc j).st = 1 from HJ.out.2.2.1]; exact HS.out) (by decide) (by decide) HN.out.2.2.2.2.1
  have e0 := (blk_cell hy2 0).trans rfl
  have hml : mj < w1.heap.size := H3'.j.lt
  have hTl : T < w1.heap.size := H3'.t.lt
  have hal : ma < w1.heap.size := H3'.t.a.lt
  have hol : mo < w1.heap.size := H3'.t.o.lt
  have H3 := Aside0.mk H3
  have hF3 := Aside0.mk (hF3.trans (Fr.of_below hb2))
  clear hw2 hb2 c0 hq1 hf1 H3'
  go_upto_region 7 with (go_at_call 37; refine hst.mono ?_; clear hst; rintro e w3 ⟨rfl, hg3⟩)
  obtain ⟨H4, hF4⟩ := H3.out.open_ hg3.out.1 hg3.out.2
  have hy3 := (hg3.out.2.blk w1.heap.size (blk_lt hy2) (by show ¬ w1.heap.size = mj; omega)).trans hy2
  have hgr := grant_calls (H4.step (below_drew1 (Below.refl _ _))).t x.f0 un hjw (by rw [← hX0.out]; exact HN.out.1) c1 HC.out.1 HN.out.2.1 ⟨HN.out.2.2.1, by have := HN.out.2.2.2.1; omega⟩ HN.out.2.2.2.2.2
  have kp : Aside0 (∀ w', Fr (TF T ma mo) w3 w' → w'.cell? ⟨G, 3, none⟩ = some (ptr T) ∧ w'.cell? ⟨w1.heap.size, 0, none⟩ = some (.int .i64 x.f0)) := ⟨fun w' hf => ⟨hf.cell H4.c3 (by
      rintro (e | e | e)
      · exact H4.n3 e
      · exact H4.nga e.symm
      · exact H4.ngo e.symm), hf.cell ((blk_cell hy3 0).trans rfl) (by
      rintro (e | e | e)
      · have e : w1.heap.size = T := e
        omega
      · have e : w1.heap.size = ma := e
        omega
      · have e : w1.heap.size = mo := e
        omega)⟩⟩
  have H4 := Aside0.mk H4
  have hF4 := Aside0.mk (hF3.out.trans hF4)
  clear hg3 hy2 hy3 e0 hml hTl hal hol
  go_region_held3 (fun w' => w'.cell? ⟨G, 3, none⟩ = some (ptr T) ∧ w'.cell? ⟨w1.heap.size, 0, none⟩ = some (.int .i64 x.f0)) (first | exact kp.out _ (fr_drew _) | exact kp.out _ (fr_trans (fr_drew _) hg4.out.2)) (first | (go_at_call 38; refine hgr.mono ?_; clear hgr; rintro e w4 ⟨rfl, hg4⟩))
  obtain ⟨H5, hF5⟩ := (H4.out.step (below_drew1 (Below.refl _ _))).table hg4.out.1 hg4.out.2
  have hB5 : BI N (fun k => X k ∨ k = W.heap.size) w4 G (fetchB b un) := by
    refine ⟨⟨B, T, mj, ma, mo, ?_⟩, hIF.out⟩
    have h6 := H5.congr (f2 := fun z => (lk jid (fetchB b un).Js z).map jc) (c2 := (fetchB b un).Js.length) (Ls2 := (fetchB b un).Ls) (fun z => ?_) ?_ ?_
    · show RM N _ w4 G B T mj ma mo b.ag b.rm b.tr (b.ct + 1) (b.ct + 1) _ _ _ _
      rw [HC.out.1]
      exact h6
    · rw [show (fetchB b un).Js = setJ b.Js (fetchJ b).f0 2 (usedOf b (fetchJ b).f0 + 1) from rfl, HU.out.1, hX0.out]
      exact upd_setJ hjk z
    · exact (setJ_len _ _ _ _).symm
    · show b.Ls ++ _ = b.Ls ++ [⟨b.ct + 1, (fetchJ b).f0, un⟩]
      rw [HC.out.1, hX0.out]
  have hgl : lk gno (fetchB b un).Ls c1 = some ⟨c1, x.f0, un⟩ := by
    rw [show (fetchB b un).Ls = b.Ls ++ [⟨b.ct + 1, (fetchJ b).f0, un⟩] from rfl, HC.out.1, hX0.out]
    rw [lk_snoc (κ := gno) b.Ls ⟨c1, x.f0, un⟩ c1 HN.out.2.1]
    rw [if_pos rfl]
  have hus2 : usedOf (fetchB b un) x.f0 = us + 1 := by
    unfold usedOf
    rw [show (fetchB b un).Js = setJ b.Js (fetchJ b).f0 2 (usedOf b (fetchJ b).f0 + 1) from rfl, HU.out.1, hX0.out, lk_setJ, hjk]
    show (if j.id = x.f0 then (⟨j.id, j.cls, 2, us + 1⟩ : Jb) else j).us = us + 1
    rw [if_pos (lk_mem hjk).2]
  have hls := lease_yes hB5 c1 HC.out.2 ⟨c1, x.f0, un⟩ hgl (us + 1) hus2
  have hF5 := Aside0.mk (hF4.out.trans ((Fr.of_below (below_drew1 (Below.refl _ _))).trans hF5))
  have hB5 := Aside0.mk hB5
  clear hg4 H5 hgl hus2 kp
  go_upto_region 9 with (go_at_call 20; refine hls.mono ?_; clear hls; rintro e w5 ⟨rfl, hb5⟩)
  generalize hw6 : w5.alloc (.cells #[.int .i64 c1, .int .i64 x.f0, .int .i64 0, .int .i64 0, .int .i64 (us + 1), .int .u64 un] 33) = w6
  have hb6 : Below w5.heap.size w5 w6 := by rw [← hw6]; exact below_alloc (Below.refl _ _) _
  have hz6 : w6.heap[w5.heap.size]? = some (.cells #[.int .i64 c1, .int .i64 x.f0, .int .i64 0, .int .i64 0, .int .i64 (us + 1), .int .u64 un] 33 (0, 0)) := by rw [← hw6]; exact blk_new _ _
  have hbx5 := (hF5.out.blk W.heap.size (blk_lt HX.out) (fun e => e.2 (.inr rfl))).trans HX.out
  have hb46 := below_step hb5 hb6
  have hx2 := blk_below hbx5 hb46
  have s0 := (blk_cell hx2 0).trans rfl
  have f0 := blk_frozen hx2 0
  have s1 := (blk_cell hx2 1).trans rfl
  have f1 := blk_frozen hx2 1
  have s2 := (blk_cell hx2 2).trans rfl
  have f2 := blk_frozen hx2 2
  have s3 := (blk_cell hx2 3).trans rfl
  have f3 := blk_frozen hx2 3
  have s4 := (blk_cell hx2 4).trans rfl
  have f4 := blk_frozen hx2 4
  have s5 := (blk_cell hx2 5).trans rfl
  have f5 := blk_frozen hx2 5
  have z0 := (blk_cell hz6 0).trans rfl
  have z1 := (blk_cell hz6 1).trans rfl
  have z2 := (blk_cell hz6 2).trans rfl
  have z3 := (blk_cell hz6 3).trans rfl
  have z4 := (blk_cell hz6 4).trans rfl
  have z5 := (blk_cell hz6 5).trans rfl
  have hx2 := Aside0.mk hx2
  have H6 := Aside0.mk (hB5.out.step hb46)
  have hbe := Aside0.mk ((Fr.of_below hb1.out).trans ((hF5.out.weak (kx_sub (fun k hk => .inl hk))).trans (Fr.of_below hb46)))
  clear hw6 hb5 hb6 hz6 hbx5 hb46
  go_wp2
  have hE := fr_set6 w6 W.heap.size (.int .i64 c1) (.int .i64 x.f0) (.int .i64 0) (.int .i64 0) (.int .i64 (us + 1)) (.int .u64 un)
  exact fetch_ret (g := W.heap.size) rfl rfl (blk_put (blk_put (blk_put (blk_put (blk_put (blk_put hx2.out 0 _ rfl) 1 _ rfl) 2 _ rfl) 3 _ rfl) 4 _ rfl) 5 _ rfl) ⟨rfl, ⟨(H6.out.keep (hE.weak (fun k hk => .inr hk))).sub (fun k hk => .inl hk), Fr.then_ hbe.out hE (fun b hb => .inr (Nat.le_of_eq hb.symm))⟩⟩
end
end Go.Proofs.Ytfkebbkfmchnaaa.Bk

set_option linter.unusedVariables false
namespace Go.Proofs.Ytfkebbkfmchnaaa.Bk
open Go.RowKit Go.Maps Go.Proofs.Ytfkebbkfmchnaaa.PBase Go.Proofs.Ytfkebbkfmchnaaa.Cat Go.Proofs.Ytfkebbkfmchnaaa.Heap Go.Proofs.Ytfkebbkfmchnaaa.Ln Go.Proofs.Ytfkebbkfmchnaaa.Lst Go.Proofs.Ytfkebbkfmchnaaa.Mq Go.Proofs.YtfkebbkfmchnaaaW.PrintWords Go.Proofs.YtfkebbkfmchnaaaW.PrintLast Go.Proofs.YtfkebbkfmchnaaaW.PrintMore
theorem eqA44 (d : Nat) (w : World) (x0 y0 : Int) (x1 y1 : Int) :
    (Op.equalIn (d + 2) 44 (.agg #[.int .i64 x0, .int .i64 x1]) (.agg #[.int .i64 y0, .int .i64 y1])).run Try.prog w = .ok (x0 == y0 && (x1 == y1)) w := by
  refine eqA_of Try.underlying44 (by kernel_rfl) ?_
  refine eqf_cons (by rfl) (by go_simp; rfl) (by go_simp; rfl) (by go_simp) ?_
  exact eqf_last (by rfl) (by go_simp; rfl) (by go_simp; rfl) (by go_simp)
theorem eqA33 (d : Nat) (w : World) (x0 y0 : Int) (x1 y1 : Int) (x2 y2 : Int) (x3 y3 : Int) (x4 y4 : Int) (x5 y5 : Int) :
    (Op.equalIn (d + 2) 33 (.agg #[.int .i64 x0, .int .i64 x1, .int .i64 x2, .int .i64 x3, .int .i64 x4, .int .u64 x5]) (.agg #[.int .i64 y0, .int .i64 y1, .int .i64 y2, .int .i64 y3, .int .i64 y4, .int .u64 y5])).run Try.prog w = .ok (x0 == y0 && (x1 == y1 && (x2 == y2 && (x3 == y3 && (x4 == y4 && (x5 == y5)))))) w := by
  refine eqA_of Try.underlying33 (by kernel_rfl) ?_
  refine eqf_cons (by rfl) (by go_simp; rfl) (by go_simp; rfl) (by go_simp) ?_
  refine eqf_cons (by rfl) (by go_simp; rfl) (by go_simp; rfl) (by go_simp) ?_
  refine eqf_cons (by rfl) (by go_simp; rfl) (by go_simp; rfl) (by go_simp) ?_
  refine eqf_cons (by rfl) (by go_simp; rfl) (by go_simp; rfl) (by go_simp) ?_
  refine eqf_cons (by rfl) (by go_simp; rfl) (by go_simp; rfl) (by go_simp) ?_
  exact eqf_last (by rfl) (by go_simp; rfl) (by go_simp; rfl) (by go_simp)
attribute [local go_sem high] eqA33 eqA44
set_option maxHeartbeats 4000000 in
set_option maxRecDepth 100000 in
theorem bnew_bad (ag rm tr : Int) (W : World) (h1 : 1 ≤ ag ∧ ag ≤ 1000) (h2 : 0 ≤ rm ∧ rm ≤ 1000) (h3 : tr < 0) : Calls Try.prog 8 #[.int .i64 ag, .int .i64 rm, .int .i64 tr] W fun e w' => e = .returned (.pointer none) ∧ Below W.heap.size W w' := by
  have hq := new_I ag rm W.heap.size W (Nat.le_refl _) ⟨h1, h2⟩
  clear h1 h2
  go_enter Try.func8, Try.ntmps8
  go_wp2_with (first
    | (go_at_call 33; refine hq.mono ?_; clear hq; rintro e w1 ⟨B, rfl, hb1, hq1⟩))
  go_ret
  exact ⟨rfl, hb1⟩
def B1 : Book := ⟨2, 3, 0, 0, [⟨1, 0, 0⟩], [⟨1, 0, 1, 0⟩], []⟩
def B2 : Book := ⟨2, 3, 0, 1, [], [⟨1, 0, 2, 1⟩], [⟨1, 1, 9⟩]⟩
def B3 : Book := ⟨2, 3, 0, 1, [], [], []⟩
set_option maxHeartbeats 8000000 in
set_option maxRecDepth 100000 in
theorem wakes12 (W : World) : Calls Try.prog 16 #[] W fun e w' => e = .returned (.bool true) ∧ Below W.heap.size W w' := by
  have q1 := True.intro
  go_enter Try.func16, Try.ntmps16
  go_upto_region 4 with (first
    | (go_at_call 8; refine (bnew_good 2 3 0 W.heap.size _ (Nat.le_refl _) (by decide) (by decide) (by decide)).mono ?_; rintro e w1 ⟨G, rfl, hb1, h1⟩)
    | (go_at_call 9; clear q1; refine (add_B h1.out 1 0 (by decide) 0 (by kernel_rfl) B1 (by kernel_rfl)).mono ?_; rintro e w2 ⟨rfl, h2⟩)
    | (go_at_call 9; refine (add_B h2.out.1 1 0 (by decide) 8 (by kernel_rfl) B1 (by kernel_rfl)).mono ?_; rintro e w3 ⟨rfl, h3⟩))
  have hF3 := Aside0.mk ((Fr.of_b (X := fun _ => False) hb1).trans (h2.out.2.trans h3.out.2))
  have h3 := Aside0.mk h3.out.1
  clear h1 h2 hb1
  have hft := fetch_yes h3.out 9 (by decide) (by decide) 0 (by kernel_rfl) 1 rfl
  rw [show fetchB B1 9 = B2 from by kernel_rfl, show (fetchJ B1).f0 = 1 from by kernel_rfl, show (0 : Int) + 1 = 1 from rfl] at hft
  go_upto_region 5 with (go_at_call 12; refine hft.mono ?_; clear hft; rintro e w4 ⟨rfl, h4⟩)
  generalize hw5 : w4.alloc (.cells #[.int .i64 1, .int .i64 1, .int .i64 0, .int .i64 0, .int .i64 1, .int .u64 9] 33) = w5
  have hb5 : Below w4.heap.size w4 w5 := by rw [← hw5]; exact below_alloc (Below.refl _ _) _
  have hx5 : w5.heap[w4.heap.size]? = some (.cells #[.int .i64 1, .int .i64 1, .int .i64 0, .int .i64 0, .int .i64 1, .int .u64 9] 33 (0, 0)) := by rw [← hw5]; exact blk_new _ _
  have h5 := h4.out.1.more (Y := fun k => k = w4.heap.size) hb5 (fun k hk => ⟨Nat.le_of_eq hk.symm, by rw [hk]; exact blk_lt hx5⟩)
  have hF5 := Aside0.mk (hF3.out.trans (h4.out.2.trans (Fr.of_below hb5)))
  have hfl := fail_yes h5 1 (by decide) ⟨1, 1, 9⟩ (by kernel_rfl)
  rw [show failB B2 ⟨1, 1, 9⟩ = B3 from by kernel_rfl, show decide (B2.tr < usedOf B2 (⟨1, 1, 9⟩ : Gr).j) = true from by kernel_rfl] at hfl
  have hx5 := Aside0.mk hx5
  clear hw5 hb5 h4 h5
  go_upto_region 6 with (go_at_call 14; refine hfl.mono ?_; clear hfl; rintro e w6 ⟨rfl, h6⟩)
  have han := answer_no h6.out.1 1 (by decide) (by kernel_rfl)
  have hx6 := Aside0.mk ((h6.out.2.blk w4.heap.size (blk_lt hx5.out) (fun e => e.2 (.inr rfl))).trans hx5.out)
  have hF6 := Aside0.mk (hF5.out.trans (h6.out.2.weak (kx_sub (fun k hk => .inl hk))))
  have h6 := Aside0.mk h6.out.1
  clear hF5 hF3 h3
  go_upto_region 7 with (go_at_call 13; refine han.mono ?_; clear han; rintro e w7 ⟨rfl, hb7⟩)
  have hx7 := blk_below hx6.out hb7
  have z0 := (blk_cell hx7 0).trans rfl
  have z1 := (blk_cell hx7 1).trans rfl
  have z2 := (blk_cell hx7 2).trans rfl
  have z3 := (blk_cell hx7 3).trans rfl
  have z4 := (blk_cell hx7 4).trans rfl
  have z5 := (blk_cell hx7 5).trans rfl
  have hop := open_B (h6.out.step hb7)
  rw [show ((B3.Js.length : Nat) : Int) = 0 from rfl] at hop
  have hF7 := Aside0.mk (hF6.out.trans (Fr.of_below hb7))
  clear hx7 hb7 h6 hF6
  go_wp2_with (first
    | (go_at_call 11; refine hop.mono ?_; clear hop; rintro e w8 ⟨rfl, hb8⟩)
    | (go_at_call 8; refine (bnew_bad 2 3 (-1) _ (by decide) (by decide) (by decide)).mono ?_; rintro e w9 ⟨rfl, hb9⟩))
  go_ret
  exact ⟨rfl, (hF7.out.trans (Fr.of_below (below_step hb8 hb9))).below (Nat.le_refl _) (fun k h => h.1)⟩
end Go.Proofs.Ytfkebbkfmchnaaa.Bk
