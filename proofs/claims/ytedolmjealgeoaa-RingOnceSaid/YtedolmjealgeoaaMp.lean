/- Maps from numbers to numbers: a block reads as a finite map. Conditions: keys and elements are numbers of their kinds. -/
import Derived.Test.YtedolmjealgeoaaFr
import Derived.Maps.Range
set_option linter.unusedVariables false
namespace Go.Proofs.Ytedolmjealgeoaa.Rg
open Go.RowKit Go.Maps Go.Proofs.Ytedolmjealgeoaa.PBase Go.Proofs.Ytedolmjealgeoaa.Cat Go.Proofs.YtedolmjealgeoaaW.PrintWords Go.Proofs.YtedolmjealgeoaaW.PrintLast Go.Proofs.YtedolmjealgeoaaW.PrintMore
theorem law3 : Keyed Try.prog 3 := int_keyed Try.underlying3
/-- The elements' kinds: int, uint64. -/
structure EK (q : IntKind) (e t : TypeId) : Prop where
  el : Try.prog.underlying e = some (.int q)
  mp : Try.prog.underlying t = some (.map 3 e)
  z : ∀ w, (zeroValue e).run Try.prog w = .ok (.int q 0) w
theorem ek3 : EK .i64 3 37 := ⟨Try.underlying3, Try.underlying37, fun w => by kernel_rfl⟩
/-- Block m is a map that reads as f; c entries. -/
def MI (q : IntKind) (e : TypeId) (w : World) (m : Nat) (f : Int → Option Int) (c : Nat) : Prop :=
  ∃ (n : Nat) (D : DataW Unit), w.ownsMap Try.prog 3 (plainElem Try.prog e) m n D ∧ (∀ x : Int, Maps.has D (.int .i64 x) = (f x).isSome) ∧ (∀ x y, f x = some y → ∀ z, D.atKey (.int .i64 x) z = .lit (.int q y)) ∧ Maps.size D = c
def upd (f : Int → Option Int) (x : Int) (y : Option Int) : Int → Option Int := fun z => if z = x then y else f z
theorem upd_same (f : Int → Option Int) (x : Int) (y : Option Int) : upd f x y x = y := if_pos rfl
theorem upd_other {f : Int → Option Int} {x : Int} {y : Option Int} {z : Int} (h : z ≠ x) : upd f x y z = f z := if_neg h
theorem keyX {x : Int} (hx : (Lit.int .i64 x).wf = true) : keyOf Try.prog 3 (.int .i64 x) = some (.int .i64 x) := keyOf_int_mk Try.underlying3 hx
theorem ne_lit {x y : Int} (h : x ≠ y) : (Lit.int .i64 x) ≠ Lit.int .i64 y := fun e => h (by injection e)
section
variable {q : IntKind} {e t : TypeId} {w w' : World} {m c : Nat} {f : Int → Option Int}
theorem MI.lt (h : MI q e w m f c) : m < w.heap.size := by
  obtain ⟨n, D, h1, _⟩ := h
  exact h1.lt
theorem MI.blk (h : MI q e w m f c) : ∃ es ck, w.heap[m]? = some (.map es ck) := by
  obtain ⟨n, D, ⟨es, ck, h1, _⟩, _⟩ := h
  exact ⟨es, ck, h1⟩
theorem MI.keep (h : MI q e w m f c) (hb : w'.heap[m]? = w.heap[m]?) : MI q e w' m f c := by
  obtain ⟨n, D, ⟨es, ck, h1, h2⟩, h3⟩ := h
  exact ⟨n, D, ⟨es, ck, hb.trans h1, h2⟩, h3⟩
theorem MI.fr {F : Nat → Prop} (h : MI q e w m f c) (hf : Fr F w w') (hm : ¬ F m) : MI q e w' m f c := h.keep (hf.blk m h.lt hm)
theorem MI.congr {g : Int → Option Int} (h : MI q e w m f c) (hg : ∀ x, f x = g x) : MI q e w m g c := by
  rw [← show f = g from funext hg]
  exact h
theorem MI.made (q : IntKind) (e : TypeId) (w : World) : MI q e (w.alloc (.map #[] 0)) w.heap.size (fun _ => none) 0 :=
  ⟨0, .map [], World.ownsMap_made _ _ _ _, fun x => rfl, fun x y h => (by cases h), rfl⟩
theorem MI.look (K : EK q e t) (h : MI q e w m f c) {x : Int} (hx : (Lit.int .i64 x).wf = true) (N : Nat) : (Instr.lookup t (.map (some m)) (.int .i64 x) true).run Try.prog (w.drewN N) = .ok (.tuple #[.int q ((f x).getD 0), .bool (f x).isSome]) (w.drewN N) := by
  have h' : MI q e (w.drewN N) m f c := h.keep rfl
  obtain ⟨n, D, h1, h2, h3, _⟩ := h'
  obtain ⟨v, ps, hrun, hv⟩ := h1.look_ok law3 K.mp (K.z _) (plainElem_int K.el (by cases q <;> decide)) (keyX hx)
  rw [hrun, h2 x]
  have e1 : v = .int q ((f x).getD 0) := by
    obtain ⟨a, rfl, hz, _⟩ := plainElem_int_inv K.el hv
    simp only [Prod.mk.injEq] at hz
    cases hf : f x with
    | none =>
      have hh := h2 x
      rw [hf] at hh
      rw [Maps.atKey_of_not_has hh] at hz
      have := hz.1
      simp only [DataW.lit.injEq, Lit.int.injEq] at this
      rw [← this.2]
      rfl
    | some y =>
      rw [h3 x y hf] at hz
      have := hz.1
      simp only [DataW.lit.injEq, Lit.int.injEq] at this
      rw [← this.2]
      rfl
  rw [e1]
theorem MI.len (K : EK q e t) (h : MI q e w m f c) (ty : TypeId) : (Builtin.len_ #[t] ty #[.map (some m)]).run Try.prog w = .ok (.int .i64 c) w := by
  obtain ⟨n, D, h1, _, _, h4⟩ := h
  rw [h1.len K.mp ty, h4]
theorem MI.store (K : EK q e t) (h : MI q e w m f c) (hc : c < maxLen) {x y : Int} (hx : (Lit.int .i64 x).wf = true) (hy : (Lit.int q y).wf = true) :
    ∃ w', (Instr.mapUpdate t (.map (some m)) (.int .i64 x) (.int q y)).run Try.prog w = .ok () w' ∧ MI q e w' m (upd f x (some y)) (if (f x).isSome = true then c else c + 1) ∧ w.mapTurned w' m := by
  obtain ⟨n, D, h1, h2, h3, h4⟩ := h
  have ht := h1.tidy law3
  have h1' : w.ownsMap Try.prog 3 (plainElem Try.prog e) m (Maps.size D) D := by
    obtain ⟨es, ck, a1, a2, a3, a4⟩ := h1
    refine ⟨es, ck, a1, a2, ?_, a4⟩
    rw [a4]
    simp [Maps.size, length_sorted]
  obtain ⟨w', hr, ho, hm⟩ := h1'.store law3 K.mp (by rw [h4]; exact hc) (keyX hx) (plainElem_int K.el hy)
  refine ⟨w', hr, ⟨_, _, ho, fun z => ?_, fun z u hz d => ?_, ?_⟩, hm⟩
  · by_cases e1 : z = x
    · subst e1
      rw [Maps.has_put_same ht.isMap (show WideAt.IsKeyLit (.int .i64 z) from trivial), upd_same]
      rfl
    · rw [Maps.has_put_other (ne_lit e1), upd_other e1, h2]
  · by_cases e1 : z = x
    · subst e1
      rw [upd_same] at hz
      obtain rfl := Option.some.inj hz
      rw [Maps.atKey_put_same ht.isMap (show WideAt.IsKeyLit (.int .i64 z) from trivial)]
    · rw [upd_other e1] at hz
      rw [Maps.atKey_put_other (ne_lit e1), h3 z u hz]
  · rw [Maps.size_put ht, h2, h4]
theorem MI.drop (K : EK q e t) (h : MI q e w m f c) {x : Int} (hx : (Lit.int .i64 x).wf = true) (ty : TypeId) :
    ∃ w', (Builtin.delete_ #[t, 3] ty #[.map (some m), .int .i64 x]).run Try.prog w = .ok (.tuple #[]) w' ∧ MI q e w' m (upd f x none) (if (f x).isSome = true then c - 1 else c) ∧ w.mapTurned w' m := by
  obtain ⟨n, D, h1, h2, h3, h4⟩ := h
  have ht := h1.tidy law3
  obtain ⟨w', hr, ho, hm⟩ := h1.drop law3 K.mp (keyX hx) ty
  refine ⟨w', hr, ⟨_, _, ho, fun z => ?_, fun z u hz d => ?_, ?_⟩, hm⟩
  · by_cases e1 : z = x
    · subst e1
      rw [Maps.has_del_same, upd_same]
      rfl
    · rw [Maps.has_del_other (ne_lit e1), upd_other e1, h2]
  · by_cases e1 : z = x
    · subst e1
      rw [upd_same] at hz
      cases hz
    · rw [upd_other e1] at hz
      rw [Maps.atKey_del_other (ne_lit e1), h3 z u hz]
  · have := Maps.size_del (k := .int .i64 x) ht
    rw [h2, h4] at this
    split <;> rename_i e1
    · rw [if_pos e1] at this; omega
    · rw [if_neg e1] at this; omega
theorem Fr.of_turned (h : w.mapTurned w' m) : Fr (fun k => k = m) w w' := Fr.of_grown h.grown (fun k e => (Option.some.inj e).symm)
end
end Go.Proofs.Ytedolmjealgeoaa.Rg
