/- Maps from numbers to elements of any kind: a block reads as a finite map. Conditions: keys are numbers of their kind. -/
import Derived.Test.YtfkebbkfmchnaaaLine
import Derived.Maps.Range
set_option linter.unusedVariables false
namespace Go.Proofs.Ytfkebbkfmchnaaa.Mq
open Go.RowKit Go.Maps Go.Proofs.Ytfkebbkfmchnaaa.PBase Go.Proofs.Ytfkebbkfmchnaaa.Ln Go.Proofs.YtfkebbkfmchnaaaW.PrintWords Go.Proofs.YtfkebbkfmchnaaaW.PrintLast Go.Proofs.YtfkebbkfmchnaaaW.PrintMore
theorem law3 : Keyed Try.prog 3 := int_keyed Try.underlying3
/-- How elements lie in a map. -/
structure El (α : Type) where
  val : α → Value
  dat : α → DataW Unit
  rd : Value → Option (DataW Unit × List MemPlace)
  z : α
  mk1 : ∀ x, rd (val x) = some (dat x, [])
  inv : ∀ v d ps, rd v = some (d, ps) → ∃ x, v = val x ∧ d = dat x
  inj : ∀ x y, dat x = dat y → x = y
structure EK {α : Type} (E : El α) (e t : TypeId) : Prop where
  mp : Try.prog.underlying t = some (.map 3 e)
  z : ∀ w, (zeroValue e).run Try.prog w = .ok (E.val E.z) w
/-- Numbers. -/
def eInt : El Int where
  val := fun a => .int .i64 a
  dat := fun a => .lit (.int .i64 a)
  rd := fun v => match v with
    | .int .i64 a => some (.lit (.int .i64 a), [])
    | _ => none
  z := 0
  mk1 := fun x => rfl
  inv := fun v d ps h => by
    split at h
    · cases h; exact ⟨_, rfl, rfl⟩
    · cases h
  inj := fun x y h => by injection h with h; injection h
/-- Block m is a map that reads as f; c entries. -/
def MI {α : Type} (E : El α) (w : World) (m : Nat) (f : Int → Option α) (c : Nat) : Prop :=
  ∃ (n : Nat) (D : DataW Unit), w.ownsMap Try.prog 3 E.rd m n D ∧ (∀ x : Int, Maps.has D (.int .i64 x) = (f x).isSome) ∧ (∀ x y, f x = some y → ∀ z, D.atKey (.int .i64 x) z = E.dat y) ∧ Maps.size D = c
def upd {α : Type} (f : Int → Option α) (x : Int) (y : Option α) : Int → Option α := fun z => if z = x then y else f z
theorem upd_same {α : Type} (f : Int → Option α) (x : Int) (y : Option α) : upd f x y x = y := if_pos rfl
theorem upd_other {α : Type} {f : Int → Option α} {x : Int} {y : Option α} {z : Int} (h : z ≠ x) : upd f x y z = f z := if_neg h
theorem keyX {x : Int} (hx : (Lit.int .i64 x).wf = true) : keyOf Try.prog 3 (.int .i64 x) = some (.int .i64 x) := keyOf_int_mk Try.underlying3 hx
theorem ne_lit {x y : Int} (h : x ≠ y) : (Lit.int .i64 x) ≠ Lit.int .i64 y := fun e => h (by injection e)
section
variable {α : Type} {E : El α} {e t : TypeId} {w w' : World} {m c : Nat} {f : Int → Option α}
theorem MI.lt (h : MI E w m f c) : m < w.heap.size := by
  obtain ⟨n, D, h1, _⟩ := h
  exact h1.lt
theorem MI.blk (h : MI E w m f c) : ∃ es ck, w.heap[m]? = some (.map es ck) := by
  obtain ⟨n, D, ⟨es, ck, h1, _⟩, _⟩ := h
  exact ⟨es, ck, h1⟩
theorem MI.keep (h : MI E w m f c) (hb : w'.heap[m]? = w.heap[m]?) : MI E w' m f c := by
  obtain ⟨n, D, ⟨es, ck, h1, h2⟩, h3⟩ := h
  exact ⟨n, D, ⟨es, ck, hb.trans h1, h2⟩, h3⟩
theorem MI.fr {F : Nat → Prop} (h : MI E w m f c) (hf : Fr F w w') (hm : ¬ F m) : MI E w' m f c := h.keep (hf.blk m h.lt hm)
theorem MI.congr {g : Int → Option α} (h : MI E w m f c) (hg : ∀ x, f x = g x) : MI E w m g c := by
  rw [← show f = g from funext hg]
  exact h
theorem MI.made (E : El α) (w : World) : MI E (w.alloc (.map #[] 0)) w.heap.size (fun _ => none) 0 :=
  ⟨0, .map [], World.ownsMap_made _ _ _ _, fun x => rfl, fun x y h => (by cases h), rfl⟩
theorem MI.value (K : EK E e t) (h : MI E w m f c) {x : Int} (hx : (Lit.int .i64 x).wf = true) {n : Nat} {D : DataW Unit} (h1 : w.ownsMap Try.prog 3 E.rd m n D) (h2 : ∀ x : Int, Maps.has D (.int .i64 x) = (f x).isSome) (h3 : ∀ x y, f x = some y → ∀ z, D.atKey (.int .i64 x) z = E.dat y) {v : Value} {ps : List MemPlace} (hv : E.rd v = some (D.atKey (.int .i64 x) (E.dat E.z), ps)) : v = E.val ((f x).getD E.z) := by
  obtain ⟨a, rfl, hz⟩ := E.inv _ _ _ hv
  cases hf : f x with
  | none =>
    have hh := h2 x
    rw [hf] at hh
    rw [Maps.atKey_of_not_has hh] at hz
    rw [E.inj _ _ hz]
    rfl
  | some y =>
    rw [h3 x y hf] at hz
    rw [E.inj _ _ hz]
    rfl
theorem MI.look (K : EK E e t) (h : MI E w m f c) {x : Int} (hx : (Lit.int .i64 x).wf = true) (N : Nat) : (Instr.lookup t (.map (some m)) (.int .i64 x) true).run Try.prog (w.drewN N) = .ok (.tuple #[E.val ((f x).getD E.z), .bool (f x).isSome]) (w.drewN N) := by
  have h' : MI E (w.drewN N) m f c := h.keep rfl
  obtain ⟨n, D, h1, h2, h3, _⟩ := id h'
  obtain ⟨v, ps, hrun, hv⟩ := h1.look_ok law3 K.mp (K.z _) (E.mk1 E.z) (keyX hx)
  rw [hrun, h2 x, MI.value K h' hx h1 h2 h3 hv]
theorem MI.look1 (K : EK E e t) (h : MI E w m f c) {x : Int} (hx : (Lit.int .i64 x).wf = true) (N : Nat) : (Instr.lookup t (.map (some m)) (.int .i64 x) false).run Try.prog (w.drewN N) = .ok (E.val ((f x).getD E.z)) (w.drewN N) := by
  have h' : MI E (w.drewN N) m f c := h.keep rfl
  obtain ⟨n, D, h1, h2, h3, _⟩ := id h'
  obtain ⟨v, ps, hrun, hv⟩ := h1.lookup law3 K.mp (K.z _) (E.mk1 E.z) (keyX hx)
  rw [hrun, MI.value K h' hx h1 h2 h3 hv]
theorem MI.len (K : EK E e t) (h : MI E w m f c) (ty : TypeId) : (Builtin.len_ #[t] ty #[.map (some m)]).run Try.prog w = .ok (.int .i64 c) w := by
  obtain ⟨n, D, h1, _, _, h4⟩ := h
  rw [h1.len K.mp ty, h4]
theorem MI.store (K : EK E e t) (h : MI E w m f c) (hc : c < maxLen) {x : Int} (y : α) (hx : (Lit.int .i64 x).wf = true) :
    ∃ w', (Instr.mapUpdate t (.map (some m)) (.int .i64 x) (E.val y)).run Try.prog w = .ok () w' ∧ MI E w' m (upd f x (some y)) (if (f x).isSome = true then c else c + 1) ∧ w.mapTurned w' m := by
  obtain ⟨n, D, h1, h2, h3, h4⟩ := h
  have ht := h1.tidy law3
  have h1' : w.ownsMap Try.prog 3 E.rd m (Maps.size D) D := by
    obtain ⟨es, ck, a1, a2, a3, a4⟩ := h1
    refine ⟨es, ck, a1, a2, ?_, a4⟩
    rw [a4]
    simp [Maps.size, length_sorted]
  obtain ⟨w', hr, ho, hm⟩ := h1'.store law3 K.mp (by rw [h4]; exact hc) (keyX hx) (E.mk1 y)
  refine ⟨w', hr, ⟨_, _, ho, fun z => ?_, fun z u hz d => ?_, ?_⟩, hm⟩
  · by_cases e1 : z = x
    · subst e1
      rw [Maps.has_put_same ht.isMap (show WideAt.IsKeyLit (.int .i64 z) from trivial), upd_same]
      rfl
    · rw [Maps.has_put_other (ne_lit e1), upd_other e1, h2]
  · by_cases e1 : z = x
    · subst e1
      rw [upd_same] at hz
      obtain rfl := Option.some.inj hz
      rw [Maps.atKey_put_same ht.isMap (show WideAt.IsKeyLit (.int .i64 z) from trivial)]
    · rw [upd_other e1] at hz
      rw [Maps.atKey_put_other (ne_lit e1), h3 z u hz]
  · rw [Maps.size_put ht, h2, h4]
theorem MI.drop (K : EK E e t) (h : MI E w m f c) {x : Int} (hx : (Lit.int .i64 x).wf = true) (ty : TypeId) :
    ∃ w', (Builtin.delete_ #[t, 3] ty #[.map (some m), .int .i64 x]).run Try.prog w = .ok (.tuple #[]) w' ∧ MI E w' m (upd f x none) (if (f x).isSome = true then c - 1 else c) ∧ w.mapTurned w' m := by
  obtain ⟨n, D, h1, h2, h3, h4⟩ := h
  have ht := h1.tidy law3
  obtain ⟨w', hr, ho, hm⟩ := h1.drop law3 K.mp (keyX hx) ty
  refine ⟨w', hr, ⟨_, _, ho, fun z => ?_, fun z u hz d => ?_, ?_⟩, hm⟩
  · by_cases e1 : z = x
    · subst e1
      rw [Maps.has_del_same, upd_same]
      rfl
    · rw [Maps.has_del_other (ne_lit e1), upd_other e1, h2]
  · by_cases e1 : z = x
    · subst e1
      rw [upd_same] at hz
      cases hz
    · rw [upd_other e1] at hz
      rw [Maps.atKey_del_other (ne_lit e1), h3 z u hz]
  · have := Maps.size_del (k := .int .i64 x) ht
    rw [h2, h4] at this
    split <;> rename_i e1
    · rw [if_pos e1] at this; omega
    · rw [if_neg e1] at this; omega
theorem Fr.of_turned (h : w.mapTurned w' m) : Fr (fun k => k = m) w w' := Fr.of_grown h.grown (fun k e => (Option.some.inj e).symm)
end
end Go.Proofs.Ytfkebbkfmchnaaa.Mq
