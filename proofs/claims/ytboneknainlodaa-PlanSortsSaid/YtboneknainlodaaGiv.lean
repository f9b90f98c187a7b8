/- plan.Good as a call: no number twice, and each timer behind the one ahead. Conditions: the list reads, its numbers are numbers of an int. -/
import Derived.Test.YtboneknainlodaaPBasex2
import Derived.Maps.OwnOps
import Derived.Maps.Views
import Derived.Maps.OwnSet
import Derived.Deep.QuietTactic
import Derived.BigQuiet
import Derived.StillTailTactics
namespace Go.Proofs.Ytboneknainlodaa.Giv
open Go.RowKit Go.Maps Go.Proofs.Ytboneknainlodaa.PBase Go.Proofs.YtboneknainlodaaW.PrintWords Go.Proofs.YtboneknainlodaaW.PrintLast Go.Proofs.YtboneknainlodaaW.PrintMore
theorem law3 : Keyed Try.prog 3 := int_keyed Try.underlying3
theorem zero4 (w : World) : (zeroValue 4).run Try.prog w = .ok (.bool false) w := by kernel_rfl
theorem plainElem_bool_inv {H : Type} {P : Program} {e : TypeId} (he : P.underlying e = some .bool) {v : Value} {z : DataW H × List MemPlace} (h : plainElem P e v = some z) : ∃ x, v = .bool x ∧ z = (.lit (.bool x), []) := by
  unfold plainElem at h
  rw [he] at h
  cases v <;> simp at h
  exact ⟨_, rfl, h.symm⟩
theorem wpList_lookup_own_bool {H : Type} {P : Program} (w : World) {ops : Array Oper} {rest : List Oper} {o : Oper} {a : Act} {Q : Exit → Act → World → Prop}
    (hg : o.guard = none) (m x : Operand) (t : TypeId) (hop : o.op = Op.lookup t m x false)
    (k e : TypeId) (K : Keyed P k) (ht : P.underlying t = some (.map k e)) (he : P.underlying e = some .bool) (hz : (zeroValue e).run P w = .ok (.bool false) w) (b n : Nat) (D : DataW H)
    (hm : a.eval m = .map (some b)) (hown : w.ownsMap P k (plainElem P e) b n D) (key : Value) (kl : Lit) (hx : a.eval x = key) (hkey : keyOf P k key = some kl)
    (r : Bool) (hat : D.atKey kl (.lit (.bool false)) = .lit (.bool r))
    (hK : wpList P ops Q rest (a.put o.dst (.bool r)) w) :
    wpList P ops Q (o :: rest) a w := by
  refine wpList_plain hg fun K' hK' => ?_
  obtain ⟨v, ps, hrun, hv⟩ := hown.lookup K ht hz (plainElem_bool he false) hkey
  obtain ⟨c, rfl, hc⟩ := plainElem_bool_inv he hv
  simp only [Prod.mk.injEq] at hc
  have hcr : c = r := by have := hc.1.symm.trans hat; simpa using this
  subst hcr
  unfold Oper.wp
  simp [execOp, hop, hm, hx, hrun, Result.andThen]
  exact hK' _ _ hK
/-- The look-up, in whatever world that draws have left. -/
theorem look {P : Program} {H : Type} {w : World} {t k e : TypeId} (K : Keyed P k) (ht : P.underlying t = some (.map k e)) (he : P.underlying e = some .bool) (hz : ∀ w, (zeroValue e).run P w = .ok (.bool false) w) {b n : Nat} {D : DataW H}
    (hown : w.ownsMap P k (plainElem P e) b n D) {key : Value} {kl : Lit} (hkey : keyOf P k key = some kl) {r : Bool} (hat : D.atKey kl (.lit (.bool false)) = .lit (.bool r)) (m : Nat) :
    (Instr.lookup t (.map (some b)) key false).run P (w.drewN m) = .ok (.bool r) (w.drewN m) := by
  have hown' : (w.drewN m).ownsMap P k (plainElem P e) b n D := by
    obtain ⟨es, clock, h1, h2⟩ := hown
    exact ⟨es, clock, h1, h2⟩
  obtain ⟨v, ps, hrun, hv⟩ := hown'.lookup K ht (hz _) (plainElem_bool he false) hkey
  obtain ⟨c, rfl, hc⟩ := plainElem_bool_inv he hv
  simp only [Prod.mk.injEq] at hc
  have hcr : c = r := by have := hc.1.symm.trans hat; simpa using this
  subst hcr
  exact hrun
theorem owns_below {P : Program} {H : Type} {w w' : World} {k : TypeId} {R : Value → Option (DataW H × List MemPlace)} {b n : Nat} {D : DataW H} (h : w.ownsMap P k R b n D) (hb : Below w.heap.size w w') : w'.ownsMap P k R b n D := by
  have hlt := h.lt
  obtain ⟨es, clock, h1, h2⟩ := h
  exact ⟨es, clock, (hb.block b hlt).trans h1, h2⟩
/-- Is the first one ahead? -/
def lt (a b : S32) : Bool := decide (a.f1 < b.f1) || (a.f1 == b.f1 && decide (a.f0 < b.f0))
theorem or_of (c d : Int) (hc : c = -1 ∨ c = 0 ∨ c = 1) (hd : d = -1 ∨ d = 0 ∨ d = 1) : cmp_Or_int.f 4 [c, d] = some (if c = 0 then d else c) := by
  rcases hc with rfl | rfl | rfl <;> rcases hd with rfl | rfl | rfl <;> decide +kernel
theorem cmpU (a b : Int) : cmp_Compare_uint64.f a b = some (if a < b then -1 else if a > b then 1 else 0) := by
  have h : ∀ x : Int, (x != x) = false := fun x => by simp
  unfold cmp_Compare_uint64.f cmp_isNaN_uint64.f
  rw [h, h, Option.bind_some, Option.bind_some, if_neg (by decide), if_neg (by decide)]
  split
  · rfl
  · split <;> rfl
theorem cmpI (a b : Int) : cmp_Compare_int.f a b = some (if a < b then -1 else if a > b then 1 else 0) := by
  have h : ∀ x : Int, (x != x) = false := fun x => by simp
  unfold cmp_Compare_int.f cmp_isNaN_int.f
  rw [h, h, Option.bind_some, Option.bind_some, if_neg (by decide), if_neg (by decide)]
  split
  · rfl
  · split <;> rfl
/-- What order tells. -/
theorem order_is (a b : S32) : ∃ r, plan_order.f 4 a.f0 a.f1 b.f0 b.f1 = some r ∧ (0 ≤ r ↔ lt a b = false) ∧ (r = -1 ∨ r = 0 ∨ r = 1) := by
  have h3 : ∀ x y : Int, (if x < y then (-1 : Int) else if x > y then 1 else 0) = -1 ∨ (if x < y then (-1 : Int) else if x > y then 1 else 0) = 0 ∨ (if x < y then (-1 : Int) else if x > y then 1 else 0) = 1 := fun x y => by split <;> (try split) <;> simp
  refine ⟨_, by unfold plan_order.f; rw [cmpU, cmpI, Option.bind_some, Option.bind_some, or_of _ _ (h3 _ _) (h3 _ _)]; rfl, ?_, ?_⟩
  · unfold lt
    rw [Bool.or_eq_false_iff, Bool.and_eq_false_iff, decide_eq_false_iff_not, decide_eq_false_iff_not, beq_eq_false_iff_ne]
    split <;> (try split) <;> (try split) <;> omega
  · by_cases h0 : (if a.f1 < b.f1 then (-1 : Int) else if a.f1 > b.f1 then 1 else 0) = 0
    · rw [if_pos h0]; exact h3 _ _
    · rw [if_neg h0]; exact h3 _ _
/-- The check, from the i-th one on. -/
def gk (l : List S32) : Nat → Nat → Bool
  | 0, _ => true
  | d + 1, i => if ((l.take i).map (·.f0)).contains (rd_T32 l i).f0 = true then false else if i > 0 ∧ lt (rd_T32 l ((i : Int) - 1)) (rd_T32 l i) = false then false else gk l d (i + 1)
theorem gk_stop {l : List S32} {i : Nat} (h : i < l.length) (hc : ((l.take i).map (·.f0)).contains (rd_T32 l i).f0 = true) : gk l (l.length - i) i = false := by
  rw [show l.length - i = (l.length - i - 1) + 1 by omega, gk, if_pos hc]
theorem gk_bad {l : List S32} {i : Nat} (h : i < l.length) (hc : ((l.take i).map (·.f0)).contains (rd_T32 l i).f0 = false) (h0 : 0 < i) (ho : lt (rd_T32 l ((i : Int) - 1)) (rd_T32 l i) = false) : gk l (l.length - i) i = false := by
  rw [show l.length - i = (l.length - i - 1) + 1 by omega, gk, if_neg (by rw [hc]; decide), if_pos ⟨h0, ho⟩]
theorem gk_go {l : List S32} {i : Nat} (h : i < l.length) (hc : ((l.take i).map (·.f0)).contains (rd_T32 l i).f0 = false) (ho : 0 < i → lt (rd_T32 l ((i : Int) - 1)) (rd_T32 l i) = true) : gk l (l.length - i) i = gk l (l.length - (i + 1)) (i + 1) := by
  rw [show l.length - i = (l.length - (i + 1)) + 1 by omega, gk, if_neg (by rw [hc]; decide), if_neg (fun hh => by rw [ho hh.1] at hh; exact absurd hh.2 (by decide))]
theorem seen_step {l : List S32} {i : Nat} (h : i < l.length) {D : DataW Unit} (hD : IsMap D) (hat : ∀ x : Int, D.atKey (.int .i64 x) (.lit (.bool false)) = .lit (.bool (((l.take i).map (·.f0)).contains x))) :
    ∀ x : Int, (D.put (.int .i64 (rd_T32 l i).f0) (.lit (.bool true))).atKey (.int .i64 x) (.lit (.bool false)) = .lit (.bool (((l.take (i + 1)).map (·.f0)).contains x)) := by
  intro x
  have e : l.take (i + 1) = l.take i ++ [rd_T32 l i] := by
    rw [List.take_add_one, List.getElem?_eq_getElem h]
    unfold rd_T32
    rw [Int.toNat_natCast, List.getD_eq_getElem?_getD, List.getElem?_eq_getElem h]
    rfl
  rw [e, List.map_append, List.contains_eq_any_beq, List.any_append, ← List.contains_eq_any_beq]
  by_cases hx : x = (rd_T32 l i).f0
  · subst hx
    rw [atKey_put_same hD (show WideAt.IsKeyLit (.int .i64 (rd_T32 l i).f0) from trivial)]
    simp
  · rw [atKey_put_other (by intro hh; injection hh with _ hh; exact hx hh), hat x]
    simp [hx]
set_option maxHeartbeats 4000000 in
set_option maxRecDepth 100000 in
theorem good_walk (A0 : Option Addr) (c0 : Nat) (l : List S32) (w : World) (hr0 : Kd.C k32 w A0 l.length l) (hwf : ∀ i : Int, (Lit.int .i64 (rd_T32 l i).f0).wf = true) (hlen : l.length < maxLen) :
    Calls Try.prog 10 #[.slice A0 l.length c0] w fun e w' => e = .returned (.bool (gk l l.length 0)) ∧ Below w.heap.size w w' := by
  have hmm := @run_makeMap Try.prog
  have HR0 := Aside0.mk hr0
  clear hr0
  go_enter Try.func10, Try.ntmps10
  go_wp2
  go_loopg [9] l.length (fun gg v9 wr => ∃ (i : Nat) (D : DataW Unit), i ≤ l.length ∧ l.length - i ≤ gg ∧ v9 = .int .i64 i ∧ wr.ownsMap Try.prog 3 (plainElem Try.prog 4) w.heap.size i D ∧ Aside0 (IsMap D) ∧ Aside0 (∀ x : Int, D.atKey (.int .i64 x) (.lit (.bool false)) = .lit (.bool (((l.take i).map (·.f0)).contains x))) ∧ Aside0 (gk l l.length 0 = gk l (l.length - i) i) ∧ Below w.heap.size w wr)
  case atStart => exact ⟨0, .map [], Nat.zero_le _, by omega, rfl, World.ownsMap_made _ _ _ _, ⟨isMap_empty⟩, ⟨fun x => rfl⟩, ⟨rfl⟩, (Below.refl _ _).alloc (Nat.le_refl _) _⟩
  case round =>
    obtain ⟨i, D, hi, hg, rfl, hown, HM, HAT, HG, hb⟩ := hrel
    by_cases hlt : i < l.length
    · have hlti : (i : Int) < (l.length : Int) := by omega
      obtain ⟨ad, e1, hx0, hx1⟩ := at_T32 (Kd.C_below HR0.out hb) (i : Int) (by omega) (by omega)
      cases e1
      rw [Int.toNat_natCast] at hx0 hx1
      have hkey : keyOf Try.prog 3 (.int .i64 (rd_T32 l i).f0) = some (.int .i64 (rd_T32 l i).f0) := keyOf_int_mk Try.underlying3 (hwf i)
      have hat := HAT.out (rd_T32 l i).f0
      cases hc : ((l.take i).map (·.f0)).contains (rd_T32 l i).f0 with
      | true =>
        rw [hc] at hat
        go_wp2_with (fail)
        have hown5 := hown.alloc (Obj.cells #[Value.int IntKind.i64 (rd_T32 l ↑i).f0, Value.int IntKind.u64 (rd_T32 l ↑i).f1] 32)
        have hb5 := below_alloc hb (Obj.cells #[Value.int IntKind.i64 (rd_T32 l ↑i).f0, Value.int IntKind.u64 (rd_T32 l ↑i).f1] 32)
        have hy0 : (wr.alloc (Obj.cells #[Value.int IntKind.i64 (rd_T32 l ↑i).f0, Value.int IntKind.u64 (rd_T32 l ↑i).f1] 32)).cell? ⟨wr.heap.size, 0, none⟩ = some (.int .i64 (rd_T32 l ↑i).f0) := by simp
        generalize wr.alloc (Obj.cells #[Value.int IntKind.i64 (rd_T32 l ↑i).f0, Value.int IntKind.u64 (rd_T32 l ↑i).f1] 32) = W5 at hown5 hb5 hy0 ⊢
        have hlook := look law3 Try.underlying48 Try.underlying4 zero4 hown5 hkey hat
        go_quiet (fail)
        go_wp2
        go_ret
        exact ⟨by rw [HG.out, gk_stop hlt hc]; rfl, by repeat (first | exact hb5 | apply below_alloc | apply pw_below_drewN | apply below_drew1)⟩
      | false =>
        rw [hc] at hat
        go_wp2_with (fail)
        have hown5 := hown.alloc (Obj.cells #[Value.int IntKind.i64 (rd_T32 l ↑i).f0, Value.int IntKind.u64 (rd_T32 l ↑i).f1] 32)
        have hb5 := below_alloc hb (Obj.cells #[Value.int IntKind.i64 (rd_T32 l ↑i).f0, Value.int IntKind.u64 (rd_T32 l ↑i).f1] 32)
        have hy0 : (wr.alloc (Obj.cells #[Value.int IntKind.i64 (rd_T32 l ↑i).f0, Value.int IntKind.u64 (rd_T32 l ↑i).f1] 32)).cell? ⟨wr.heap.size, 0, none⟩ = some (.int .i64 (rd_T32 l ↑i).f0) := by simp
        have hy1 : (wr.alloc (Obj.cells #[Value.int IntKind.i64 (rd_T32 l ↑i).f0, Value.int IntKind.u64 (rd_T32 l ↑i).f1] 32)).cell? ⟨wr.heap.size, 1, none⟩ = some (.int .u64 (rd_T32 l ↑i).f1) := by simp
        generalize wr.alloc (Obj.cells #[Value.int IntKind.i64 (rd_T32 l ↑i).f0, Value.int IntKind.u64 (rd_T32 l ↑i).f1] 32) = W5 at hown5 hb5 hy0 hy1 ⊢
        have hlook := look law3 Try.underlying48 Try.underlying4 zero4 hown5 hkey hat
        by_cases h0 : 0 < i
        · have hd : decide (0 < (i : Int)) = true := decide_eq_true (by omega)
          have hlm : l.length < 9223372036854775807 := by unfold maxLen at hlen; omega
          obtain ⟨j, hj⟩ : ∃ j : Int, (i : Int) - 1 = j := ⟨_, rfl⟩
          have hwj : IntKind.i64.wrap ((i : Int) - 1) = j := by rw [i64_w]; unfold wrap64; omega
          have hwj2 : IntKind.i64.wrap j = j := by rw [i64_w]; unfold wrap64; omega
          obtain ⟨ad', e2, hp0, hp1⟩ := at_T32 (Kd.C_below HR0.out hb5) j (by omega) (by omega)
          cases e2
          have pj := eq_true (show 0 ≤ j by omega)
          have qj := eq_true (show j < (l.length : Int) by omega)
          have hlook1 : (Instr.lookup 48 (.map (some w.heap.size)) (.int .i64 (rd_T32 l i).f0) false).run Try.prog W5.drew = .ok (.bool false) W5.drew := hlook 1
          go_still_tail 14, (by kernel_rfl)
          change wpList _ _ _ _ _ W5.drew
          obtain ⟨r, ho1, ho2, ho3⟩ := order_is (rd_T32 l j) (rd_T32 l i)
          have HO2 := Aside0.mk ho2
          clear ho2 ho3
          have hy6 : W5.drew.cell? ⟨wr.heap.size, 0, none⟩ = some (.int .i64 (rd_T32 l ↑i).f0) := hy0
          have hb6 : Below w.heap.size w W5.drew := pw_below_drewN hb5 1
          have hown6 : W5.drew.ownsMap Try.prog 3 (plainElem Try.prog 4) w.heap.size i D := hown5
          generalize W5.drew = W6 at hy6 hb6 hown6 ⊢
          by_cases hr : 0 ≤ r
          · have hrd : decide (0 ≤ r) = true := decide_eq_true hr
            go_wp2_with (go_at_call 20; refine (plan_order.calls 4 _ _ _ _ r _ ho1).mono ?_; rintro e w7 ⟨rfl, hb7⟩)
            · go_ret
              exact ⟨by rw [HG.out, gk_bad hlt hc h0 (by rw [hj]; exact HO2.out.1 hr)]; rfl, below_step hb6 hb7⟩
          · have hrd : decide (0 ≤ r) = false := decide_eq_false hr
            go_wp2_with (first
              | (go_at_call 20; refine (plan_order.calls 4 _ _ _ _ r _ ho1).mono ?_; rintro e w7 ⟨rfl, hb7⟩; have hy7 := (hb7.cell (World.block_lt_of_cell? W6 _ hy6)).trans hy6)
              | (at_mapUpdate; refine wpList_mapUpdate_own _ rfl _ _ _ 48 rfl 3 4 law3 Try.underlying48 (plainElem Try.prog 4) w.heap.size i D rfl (owns_below hown6 hb7) (by omega) _ _ _ rfl rfl hkey _ [] (plainElem_bool Try.underlying4 true) ?_; intro w1 hown1 hgrow1))
            go_roundg (l.length - (i + 1))
            case measure => omega
            case rel => exact ⟨i + 1, _, by omega, Nat.le_refl _, by go_num, hown1, ⟨HM.out.put _ _⟩, ⟨seen_step hlt HM.out HAT.out⟩, ⟨by rw [HG.out, gk_go hlt hc (fun _ => by rw [hj]; exact Decidable.byContradiction (fun hl => absurd (HO2.out.2 (by simpa using hl)) (by omega)))]⟩, (below_step hb6 hb7).grown hgrow1 (below_step hb6 hb7).size (fun j hj => by cases hj; exact Nat.le_refl _)⟩
        · have hd : decide (0 < (i : Int)) = false := decide_eq_false (by omega)
          go_quiet (fail)
          go_wp2_with (at_mapUpdate; refine wpList_mapUpdate_own _ rfl _ _ _ 48 rfl 3 4 law3 Try.underlying48 (plainElem Try.prog 4) w.heap.size i D rfl hown5 (by omega) _ _ _ rfl rfl hkey _ [] (plainElem_bool Try.underlying4 true) ?_; intro w1 hown1 hgrow1)
          go_roundg (l.length - (i + 1))
          case measure => omega
          case rel => exact ⟨i + 1, _, by omega, Nat.le_refl _, by go_num, hown1, ⟨HM.out.put _ _⟩, ⟨seen_step hlt HM.out HAT.out⟩, ⟨by rw [HG.out, gk_go hlt hc (fun hh => absurd hh h0)]⟩, (pw_below_drewN hb5 _).grown hgrow1 (pw_below_drewN hb5 _).size (fun j hj => by cases hj; exact Nat.le_refl _)⟩
    · have : i = l.length := by omega
      subst this
      have hlti : ¬ (l.length : Int) < (l.length : Int) := by omega
      go_wp2_with (fail)
      go_ret
      exact ⟨by rw [HG.out, Nat.sub_self]; rfl, hb⟩
/-- No table is asked. -/
def TabOk (w : World) : Prop := 0 ≤ w.heap.size
theorem TabOk.below {w w' : World} (_ : TabOk w) (_ : Below w.heap.size w w') : TabOk w' := Nat.zero_le _
theorem wf_rd {l : List S32} (h : l.all (fun d => (Lit.int .i64 d.f0).wf) = true) (i : Int) : (Lit.int .i64 (rd_T32 l i).f0).wf = true := by
  unfold rd_T32
  rw [List.getD_eq_getElem?_getD]
  cases hi : l[i.toNat]? with
  | none => rfl
  | some d => exact List.all_eq_true.1 h d (List.mem_of_getElem? hi)
def plan_Good.f (l : List S32) : Option Bool := if l.all (fun d => (Lit.int .i64 d.f0).wf) = true then if l.length < maxLen then some (gk l l.length 0) else none else none
set_option linter.unusedVariables false
theorem plan_Good.calls (A0 : Option Addr) (c0 : Nat) (l0 : List S32) (r : Bool) (w : World) (hr0 : Kd.C k32 w A0 l0.length l0) (hc0 : l0.length ≤ c0) (h : plan_Good.f l0 = some r) (hT0 : TabOk w) :
    Calls Try.prog 10 #[.slice A0 l0.length c0] w fun e w' => e = .returned (.bool r) ∧ Below w.heap.size w w' := by
  unfold plan_Good.f at h
  by_cases h1 : l0.all (fun d => (Lit.int .i64 d.f0).wf) = true
  · rw [if_pos h1] at h
    by_cases h2 : l0.length < maxLen
    · rw [if_pos h2] at h
      obtain rfl := Option.some.inj h
      exact good_walk A0 c0 l0 w hr0 (wf_rd h1) h2
    · rw [if_neg h2] at h; cases h
  · rw [if_neg h1] at h; cases h
end Go.Proofs.Ytboneknainlodaa.Giv
