/- plan.Good, Insert, Cancel as calls. Conditions: the list reads, its numbers are numbers of an int. -/
import Derived.Test.YtedolmjealgeoaaDoorGc
import Derived.Test.YtedolmjealgeoaaDoorPq
import Derived.Deep.RegionHeld3
import Derived.Lib.AppendZeros
namespace Go.Proofs.YtedolmjealgeoaaDoor.Pn
open Go.RowKit Go.Maps Go.Proofs.YtedolmjealgeoaaDoor.PBase Go.Proofs.YtedolmjealgeoaaDoor.Cat Go.Proofs.YtedolmjealgeoaaDoor.Rg Go.Proofs.YtedolmjealgeoaaDoorW.PrintWords Go.Proofs.YtedolmjealgeoaaDoorW.PrintLast Go.Proofs.YtedolmjealgeoaaDoorW.PrintMore
set_option linter.unusedVariables false
section
open Go.Shelf Go.Lib
/-- The closure of has(id): its number is id; id lies in the cell ⟨B, 0⟩. -/
theorem pred99 (id : Int) (B : Nat) (w : World) (hB : B < w.heap.size) (hcell : w.cell? ⟨B, 0, none⟩ = some (.int .i64 id)) :
    PredBelow Tryd.prog 99 #[.pointer (some ⟨B, 0, none⟩)] (fun x => .agg (Laid.enc x).toArray) (fun x => x.f0 == id) w := fun W x hb => by
  have hc : W.cell? ⟨B, 0, none⟩ = some (.int .i64 id) := (hb.cell (p := ⟨B, 0, none⟩) hB).trans hcell
  have hBW : B < W.heap.size := Nat.lt_of_lt_of_le hB hb.size
  have hne : B ≠ W.heap.size := by omega
  show Calls Tryd.prog 99 #[.agg #[.int .i64 x.f0, .int .u64 x.f1], .pointer (some ⟨B, 0, none⟩)] W _
  go_enter Tryd.func99, Tryd.ntmps99
  go_wp2
  all_goals (go_ret; exact ⟨by simp_all, hb.alloc hb.size _⟩)
instance instS32 : Inhabited S31 := ⟨z31⟩
theorem has_walk (id : Int) (w : World) : Calls Tryd.prog 83 #[.int .i64 id] w fun e w' => e = .returned (.func (.func 99) #[] #[.pointer (some ⟨w.heap.size, 0, none⟩)]) ∧ w' = w.alloc (.cells #[.int .i64 id] 3) := by
  go_enter Tryd.func83, Tryd.ntmps83
  go_wp2
  go_ret
  exact ⟨rfl, rfl⟩
theorem enters99 : ∀ args w, (callFunc 99 args).run Tryd.prog w = .ok (.enter 99 args) w := enters_of Tryd.func99 (by kernel_rfl) rfl
theorem index_nil (A : Option Addr) (c : Nat) (f : Value) (w : World) : Calls Tryd.prog 85 #[.slice A 0 c, f] w fun e w' => e = .returned (.int .i64 (-1)) ∧ Below w.heap.size w w' := by
  go_enter Tryd.func85, Tryd.ntmps85
  go_wp2
  go_loopg [8] 1 (fun _ v8 wr => v8 = .int .i64 0 ∧ wr = w)
  case atStart => exact ⟨rfl, rfl⟩
  case round =>
    obtain ⟨rfl, rfl⟩ := hrel
    go_wp2
    go_ret
    exact ⟨rfl, Below.refl _ _⟩
theorem index_calls (A0 : Option Addr) (c0 : Nat) (l : List S31) (id : Int) (B : Nat) (w : World) (hr0 : Kd.C k31 w A0 l.length l) (hB : B < w.heap.size) (hcell : w.cell? ⟨B, 0, none⟩ = some (.int .i64 id)) :
    Calls Tryd.prog 85 #[.slice A0 l.length c0, .func (.func 99) #[] #[.pointer (some ⟨B, 0, none⟩)]] w fun e w' => e = .returned (.int .i64 (Lib.idxBy (fun _ y => y.f0 == id) l default)) ∧ Below w.heap.size w w' := by
  rcases Nat.eq_zero_or_pos l.length with h0 | h0
  · obtain rfl := List.eq_nil_of_length_eq_zero h0
    exact index_nil A0 c0 _ w
  · obtain ⟨b, off, rfl, hb, hc⟩ := cells_of hr0 h0
    have h := AnyQ.slices_IndexFunc Tryd.indexFunc 2 Tryd.isAgg31 Tryd.sizeOf31 Laid.enc (fun _ => rfl) (fun x => x.f0 == id) 99 #[.pointer (some ⟨B, 0, none⟩)] enters99 b off l.length c0 l w (pred99 id B w hB hcell) (Nat.le_refl _) hr0.2.1 hb hc
    rw [List.take_length] at h
    exact h
theorem contains_nil (A : Option Addr) (c : Nat) (f : Value) (w : World) : Calls Tryd.prog 82 #[.slice A 0 c, f] w fun e w' => e = .returned (.bool false) ∧ Below w.heap.size w w' := by
  go_enter Tryd.func82, Tryd.ntmps82
  go_wp2_with (go_at_call 85; refine (index_nil A c f _).mono ?_; rintro e w7 ⟨rfl, hb7⟩)
  go_ret
  exact ⟨rfl, hb7⟩
theorem contains_calls (A0 : Option Addr) (c0 : Nat) (l : List S31) (id : Int) (B : Nat) (w : World) (hr0 : Kd.C k31 w A0 l.length l) (hB : B < w.heap.size) (hcell : w.cell? ⟨B, 0, none⟩ = some (.int .i64 id)) :
    Calls Tryd.prog 82 #[.slice A0 l.length c0, .func (.func 99) #[] #[.pointer (some ⟨B, 0, none⟩)]] w fun e w' => e = .returned (.bool (l.any (fun x => x.f0 == id))) ∧ Below w.heap.size w w' := by
  rcases Nat.eq_zero_or_pos l.length with h0 | h0
  · obtain rfl := List.eq_nil_of_length_eq_zero h0
    exact contains_nil A0 c0 _ w
  · obtain ⟨b, off, rfl, hb, hc⟩ := cells_of hr0 h0
    have h := AnyQ.slices_ContainsFunc Tryd.containsFunc 2 Tryd.isAgg31 Tryd.sizeOf31 Laid.enc (fun _ => rfl) (fun x => x.f0 == id) 99 #[.pointer (some ⟨B, 0, none⟩)] enters99 b off l.length c0 l w (pred99 id B w hB hcell) (Nat.le_refl _) hr0.2.1 hb hc
    rw [List.take_length] at h
    exact h
end
theorem law3 : Keyed Tryd.prog 3 := int_keyed Tryd.underlying3
theorem zero4 (w : World) : (zeroValue 4).run Tryd.prog w = .ok (.bool false) w := by kernel_rfl
theorem plainElem_bool_inv {H : Type} {P : Program} {e : TypeId} (he : P.underlying e = some .bool) {v : Value} {z : DataW H × List MemPlace} (h : plainElem P e v = some z) : ∃ x, v = .bool x ∧ z = (.lit (.bool x), []) := by
  unfold plainElem at h
  rw [he] at h
  cases v <;> simp at h
  exact ⟨_, rfl, h.symm⟩
theorem wpList_lookup_own_bool {H : Type} {P : Program} (w : World) {ops : Array Oper} {rest : List Oper} {o : Oper} {a : Act} {Q : Exit → Act → World → Prop}
    (hg : o.guard = none) (m x : Operand) (t : TypeId) (hop : o.op = Op.lookup t m x false)
    (k e : TypeId) (K : Keyed P k) (ht : P.underlying t = some (.map k e)) (he : P.underlying e = some .bool) (hz : (zeroValue e).run P w = .ok (.bool false) w) (b n : Nat) (D : DataW H)
    (hm : a.eval m = .map (some b)) (hown : w.ownsMap P k (plainElem P e) b n D) (key : Value) (kl : Lit) (hx : a.eval x = key) (hkey : keyOf P k key = some kl)
    (r : Bool) (hat : D.atKey kl (.lit (.bool false)) = .lit (.bool r))
    (hK : wpList P ops Q rest (a.put o.dst (.bool r)) w) :
    wpList P ops Q (o :: rest) a w := by
  refine wpList_plain hg fun K' hK' => ?_
  obtain ⟨v, ps, hrun, hv⟩ := hown.lookup K ht hz (plainElem_bool he false) hkey
  obtain ⟨c, rfl, hc⟩ := plainElem_bool_inv he hv
  simp only [Prod.mk.injEq] at hc
  have hcr : c = r := by have := hc.1.symm.trans hat; simpa using this
  subst hcr
  unfold Oper.wp
  simp [execOp, hop, hm, hx, hrun, Result.andThen]
  exact hK' _ _ hK
/-- The look-up, in whatever world that draws have left. -/
theorem look {P : Program} {H : Type} {w : World} {t k e : TypeId} (K : Keyed P k) (ht : P.underlying t = some (.map k e)) (he : P.underlying e = some .bool) (hz : ∀ w, (zeroValue e).run P w = .ok (.bool false) w) {b n : Nat} {D : DataW H}
    (hown : w.ownsMap P k (plainElem P e) b n D) {key : Value} {kl : Lit} (hkey : keyOf P k key = some kl) {r : Bool} (hat : D.atKey kl (.lit (.bool false)) = .lit (.bool r)) (m : Nat) :
    (Instr.lookup t (.map (some b)) key false).run P (w.drewN m) = .ok (.bool r) (w.drewN m) := by
  have hown' : (w.drewN m).ownsMap P k (plainElem P e) b n D := by
    obtain ⟨es, clock, h1, h2⟩ := hown
    exact ⟨es, clock, h1, h2⟩
  obtain ⟨v, ps, hrun, hv⟩ := hown'.lookup K ht (hz _) (plainElem_bool he false) hkey
  obtain ⟨c, rfl, hc⟩ := plainElem_bool_inv he hv
  simp only [Prod.mk.injEq] at hc
  have hcr : c = r := by have := hc.1.symm.trans hat; simpa using this
  subst hcr
  exact hrun
theorem owns_below {P : Program} {H : Type} {w w' : World} {k : TypeId} {R : Value → Option (DataW H × List MemPlace)} {b n : Nat} {D : DataW H} (h : w.ownsMap P k R b n D) (hb : Below w.heap.size w w') : w'.ownsMap P k R b n D := by
  have hlt := h.lt
  obtain ⟨es, clock, h1, h2⟩ := h
  exact ⟨es, clock, (hb.block b hlt).trans h1, h2⟩
/-- What order tells. -/
theorem order_is (a b : S31) : ∃ r, plan_order.f 4 a.f0 a.f1 b.f0 b.f1 = some r ∧ (0 ≤ r ↔ lt a b = false) ∧ (r = -1 ∨ r = 0 ∨ r = 1) := by
  have h3 : ∀ x y : Int, (if x < y then (-1 : Int) else if x > y then 1 else 0) = -1 ∨ (if x < y then (-1 : Int) else if x > y then 1 else 0) = 0 ∨ (if x < y then (-1 : Int) else if x > y then 1 else 0) = 1 := fun x y => by split <;> (try split) <;> simp
  refine ⟨_, by unfold plan_order.f; rw [cmpU, cmpI, Option.bind_some, Option.bind_some, or_of _ _ (h3 _ _) (h3 _ _)]; rfl, ?_, ?_⟩
  · unfold lt
    rw [Bool.or_eq_false_iff, Bool.and_eq_false_iff, decide_eq_false_iff_not, decide_eq_false_iff_not, beq_eq_false_iff_ne]
    split <;> (try split) <;> (try split) <;> omega
  · by_cases h0 : (if a.f1 < b.f1 then (-1 : Int) else if a.f1 > b.f1 then 1 else 0) = 0
    · rw [if_pos h0]; exact h3 _ _
    · rw [if_neg h0]; exact h3 _ _
/-- The check, from the i-th one on. -/
def gk (l : List S31) : Nat → Nat → Bool
  | 0, _ => true
  | d + 1, i => if ((l.take i).map (·.f0)).contains (rd_T31 l i).f0 = true then false else if i > 0 ∧ lt (rd_T31 l ((i : Int) - 1)) (rd_T31 l i) = false then false else gk l d (i + 1)
theorem gk_stop {l : List S31} {i : Nat} (h : i < l.length) (hc : ((l.take i).map (·.f0)).contains (rd_T31 l i).f0 = true) : gk l (l.length - i) i = false := by
  rw [show l.length - i = (l.length - i - 1) + 1 by omega, gk, if_pos hc]
theorem gk_bad {l : List S31} {i : Nat} (h : i < l.length) (hc : ((l.take i).map (·.f0)).contains (rd_T31 l i).f0 = false) (h0 : 0 < i) (ho : lt (rd_T31 l ((i : Int) - 1)) (rd_T31 l i) = false) : gk l (l.length - i) i = false := by
  rw [show l.length - i = (l.length - i - 1) + 1 by omega, gk, if_neg (by rw [hc]; decide), if_pos ⟨h0, ho⟩]
theorem gk_go {l : List S31} {i : Nat} (h : i < l.length) (hc : ((l.take i).map (·.f0)).contains (rd_T31 l i).f0 = false) (ho : 0 < i → lt (rd_T31 l ((i : Int) - 1)) (rd_T31 l i) = true) : gk l (l.length - i) i = gk l (l.length - (i + 1)) (i + 1) := by
  rw [show l.length - i = (l.length - (i + 1)) + 1 by omega, gk, if_neg (by rw [hc]; decide), if_neg (fun hh => by rw [ho hh.1] at hh; exact absurd hh.2 (by decide))]
theorem seen_step {l : List S31} {i : Nat} (h : i < l.length) {D : DataW Unit} (hD : IsMap D) (hat : ∀ x : Int, D.atKey (.int .i64 x) (.lit (.bool false)) = .lit (.bool (((l.take i).map (·.f0)).contains x))) :
    ∀ x : Int, (D.put (.int .i64 (rd_T31 l i).f0) (.lit (.bool true))).atKey (.int .i64 x) (.lit (.bool false)) = .lit (.bool (((l.take (i + 1)).map (·.f0)).contains x)) := by
  intro x
  have e : l.take (i + 1) = l.take i ++ [rd_T31 l i] := by
    rw [List.take_add_one, List.getElem?_eq_getElem h]
    unfold rd_T31
    rw [Int.toNat_natCast, List.getD_eq_getElem?_getD, List.getElem?_eq_getElem h]
    rfl
  rw [e, List.map_append, List.contains_eq_any_beq, List.any_append, ← List.contains_eq_any_beq]
  by_cases hx : x = (rd_T31 l i).f0
  · subst hx
    rw [atKey_put_same hD (show WideAt.IsKeyLit (.int .i64 (rd_T31 l i).f0) from trivial)]
    simp
  · rw [atKey_put_other (by intro hh; injection hh with _ hh; exact hx hh), hat x]
    simp [hx]
set_option maxHeartbeats 4000000 in
set_option maxRecDepth 100000 in
theorem good_walk (A0 : Option Addr) (c0 : Nat) (l : List S31) (w : World) (hr0 : Kd.C k31 w A0 l.length l) (hwf : ∀ i : Int, (Lit.int .i64 (rd_T31 l i).f0).wf = true) (hlen : l.length < maxLen) :
    Calls Tryd.prog 81 #[.slice A0 l.length c0] w fun e w' => e = .returned (.bool (gk l l.length 0)) ∧ Below w.heap.size w w' := by
  have hmm := @run_makeMap Tryd.prog
  have HR0 := Aside0.mk hr0
  clear hr0
  go_enter Tryd.func81, Tryd.ntmps81
  go_wp2
  go_loopg [9] l.length (fun gg v9 wr => ∃ (i : Nat) (D : DataW Unit), i ≤ l.length ∧ l.length - i ≤ gg ∧ v9 = .int .i64 i ∧ wr.ownsMap Tryd.prog 3 (plainElem Tryd.prog 4) w.heap.size i D ∧ Aside0 (IsMap D) ∧ Aside0 (∀ x : Int, D.atKey (.int .i64 x) (.lit (.bool false)) = .lit (.bool (((l.take i).map (·.f0)).contains x))) ∧ Aside0 (gk l l.length 0 = gk l (l.length - i) i) ∧ Below w.heap.size w wr)
  case atStart => exact ⟨0, .map [], Nat.zero_le _, by omega, rfl, World.ownsMap_made _ _ _ _, ⟨isMap_empty⟩, ⟨fun x => rfl⟩, ⟨rfl⟩, (Below.refl _ _).alloc (Nat.le_refl _) _⟩
  case round =>
    obtain ⟨i, D, hi, hg, rfl, hown, HM, HAT, HG, hb⟩ := hrel
    by_cases hlt : i < l.length
    · have hlti : (i : Int) < (l.length : Int) := by omega
      obtain ⟨ad, e1, hx0, hx1⟩ := at_T31 (Kd.C_below HR0.out hb) (i : Int) (by omega) (by omega)
      cases e1
      rw [Int.toNat_natCast] at hx0 hx1
      have hkey : keyOf Tryd.prog 3 (.int .i64 (rd_T31 l i).f0) = some (.int .i64 (rd_T31 l i).f0) := keyOf_int_mk Tryd.underlying3 (hwf i)
      have hat := HAT.out (rd_T31 l i).f0
      cases hc : ((l.take i).map (·.f0)).contains (rd_T31 l i).f0 with
      | true =>
        rw [hc] at hat
        go_wp2_with (fail)
        have hown5 := hown.alloc (Obj.cells #[Value.int IntKind.i64 (rd_T31 l ↑i).f0, Value.int IntKind.u64 (rd_T31 l ↑i).f1] 31)
        have hb5 := below_alloc hb (Obj.cells #[Value.int IntKind.i64 (rd_T31 l ↑i).f0, Value.int IntKind.u64 (rd_T31 l ↑i).f1] 31)
        have hy0 : (wr.alloc (Obj.cells #[Value.int IntKind.i64 (rd_T31 l ↑i).f0, Value.int IntKind.u64 (rd_T31 l ↑i).f1] 31)).cell? ⟨wr.heap.size, 0, none⟩ = some (.int .i64 (rd_T31 l ↑i).f0) := by simp
        generalize wr.alloc (Obj.cells #[Value.int IntKind.i64 (rd_T31 l ↑i).f0, Value.int IntKind.u64 (rd_T31 l ↑i).f1] 31) = W5 at hown5 hb5 hy0 ⊢
        have hlook := look law3 Tryd.underlying143 Tryd.underlying4 zero4 hown5 hkey hat
        go_quiet (fail)
        go_wp2
        go_ret
        exact ⟨by rw [HG.out, gk_stop hlt hc]; rfl, by repeat (first | exact hb5 | apply below_alloc | apply pw_below_drewN | apply below_drew1)⟩
      | false =>
        rw [hc] at hat
        go_wp2_with (fail)
        have hown5 := hown.alloc (Obj.cells #[Value.int IntKind.i64 (rd_T31 l ↑i).f0, Value.int IntKind.u64 (rd_T31 l ↑i).f1] 31)
        have hb5 := below_alloc hb (Obj.cells #[Value.int IntKind.i64 (rd_T31 l ↑i).f0, Value.int IntKind.u64 (rd_T31 l ↑i).f1] 31)
        have hy0 : (wr.alloc (Obj.cells #[Value.int IntKind.i64 (rd_T31 l ↑i).f0, Value.int IntKind.u64 (rd_T31 l ↑i).f1] 31)).cell? ⟨wr.heap.size, 0, none⟩ = some (.int .i64 (rd_T31 l ↑i).f0) := by simp
        have hy1 : (wr.alloc (Obj.cells #[Value.int IntKind.i64 (rd_T31 l ↑i).f0, Value.int IntKind.u64 (rd_T31 l ↑i).f1] 31)).cell? ⟨wr.heap.size, 1, none⟩ = some (.int .u64 (rd_T31 l ↑i).f1) := by simp
        generalize wr.alloc (Obj.cells #[Value.int IntKind.i64 (rd_T31 l ↑i).f0, Value.int IntKind.u64 (rd_T31 l ↑i).f1] 31) = W5 at hown5 hb5 hy0 hy1 ⊢
        have hlook := look law3 Tryd.underlying143 Tryd.underlying4 zero4 hown5 hkey hat
        by_cases h0 : 0 < i
        · have hd : decide (0 < (i : Int)) = true := decide_eq_true (by omega)
          have hlm : l.length < 9223372036854775807 := by unfold maxLen at hlen; omega
          obtain ⟨j, hj⟩ : ∃ j : Int, (i : Int) - 1 = j := ⟨_, rfl⟩
          have hwj : IntKind.i64.wrap ((i : Int) - 1) = j := by rw [i64_w]; unfold wrap64; omega
          have hwj2 : IntKind.i64.wrap j = j := by rw [i64_w]; unfold wrap64; omega
          obtain ⟨ad', e2, hp0, hp1⟩ := at_T31 (Kd.C_below HR0.out hb5) j (by omega) (by omega)
          cases e2
          have pj := eq_true (show 0 ≤ j by omega)
          have qj := eq_true (show j < (l.length : Int) by omega)
          have hlook1 : (Instr.lookup 143 (.map (some w.heap.size)) (.int .i64 (rd_T31 l i).f0) false).run Tryd.prog W5.drew = .ok (.bool false) W5.drew := hlook 1
          go_still_tail 14, (by kernel_rfl)
          change wpList _ _ _ _ _ W5.drew
          obtain ⟨r, ho1, ho2, ho3⟩ := order_is (rd_T31 l j) (rd_T31 l i)
          have HO2 := Aside0.mk ho2
          clear ho2 ho3
          have hy6 : W5.drew.cell? ⟨wr.heap.size, 0, none⟩ = some (.int .i64 (rd_T31 l ↑i).f0) := hy0
          have hb6 : Below w.heap.size w W5.drew := pw_below_drewN hb5 1
          have hown6 : W5.drew.ownsMap Tryd.prog 3 (plainElem Tryd.prog 4) w.heap.size i D := hown5
          generalize W5.drew = W6 at hy6 hb6 hown6 ⊢
          by_cases hr : 0 ≤ r
          · have hrd : decide (0 ≤ r) = true := decide_eq_true hr
            go_wp2_with (go_at_call 84; refine (plan_order.calls 4 _ _ _ _ r _ ho1).mono ?_; rintro e w7 ⟨rfl, hb7⟩)
            · go_ret
              exact ⟨by rw [HG.out, gk_bad hlt hc h0 (by rw [hj]; exact HO2.out.1 hr)]; rfl, below_step hb6 hb7⟩
          · have hrd : decide (0 ≤ r) = false := decide_eq_false hr
            go_wp2_with (first
              | (go_at_call 84; refine (plan_order.calls 4 _ _ _ _ r _ ho1).mono ?_; rintro e w7 ⟨rfl, hb7⟩; have hy7 := (hb7.cell (World.block_lt_of_cell? W6 _ hy6)).trans hy6)
              | (at_mapUpdate; refine wpList_mapUpdate_own _ rfl _ _ _ 143 rfl 3 4 law3 Tryd.underlying143 (plainElem Tryd.prog 4) w.heap.size i D rfl (owns_below hown6 hb7) (by omega) _ _ _ rfl rfl hkey _ [] (plainElem_bool Tryd.underlying4 true) ?_; intro w1 hown1 hgrow1))
            go_roundg (l.length - (i + 1))
            case measure => omega
            case rel => exact ⟨i + 1, _, by omega, Nat.le_refl _, by go_num, hown1, ⟨HM.out.put _ _⟩, ⟨seen_step hlt HM.out HAT.out⟩, ⟨by rw [HG.out, gk_go hlt hc (fun _ => by rw [hj]; exact Decidable.byContradiction (fun hl => absurd (HO2.out.2 (by simpa using hl)) (by omega)))]⟩, (below_step hb6 hb7).grown hgrow1 (below_step hb6 hb7).size (fun j hj => by cases hj; exact Nat.le_refl _)⟩
        · have hd : decide (0 < (i : Int)) = false := decide_eq_false (by omega)
          go_quiet (fail)
          go_wp2_with (at_mapUpdate; refine wpList_mapUpdate_own _ rfl _ _ _ 143 rfl 3 4 law3 Tryd.underlying143 (plainElem Tryd.prog 4) w.heap.size i D rfl hown5 (by omega) _ _ _ rfl rfl hkey _ [] (plainElem_bool Tryd.underlying4 true) ?_; intro w1 hown1 hgrow1)
          go_roundg (l.length - (i + 1))
          case measure => omega
          case rel => exact ⟨i + 1, _, by omega, Nat.le_refl _, by go_num, hown1, ⟨HM.out.put _ _⟩, ⟨seen_step hlt HM.out HAT.out⟩, ⟨by rw [HG.out, gk_go hlt hc (fun hh => absurd hh h0)]⟩, (pw_below_drewN hb5 _).grown hgrow1 (pw_below_drewN hb5 _).size (fun j hj => by cases hj; exact Nat.le_refl _)⟩
    · have : i = l.length := by omega
      subst this
      have hlti : ¬ (l.length : Int) < (l.length : Int) := by omega
      go_wp2_with (fail)
      go_ret
      exact ⟨by rw [HG.out, Nat.sub_self]; rfl, hb⟩
theorem wf_rd {l : List S31} (h : l.all (fun d => (Lit.int .i64 d.f0).wf) = true) (i : Int) : (Lit.int .i64 (rd_T31 l i).f0).wf = true := by
  unfold rd_T31
  rw [List.getD_eq_getElem?_getD]
  cases hi : l[i.toNat]? with
  | none => rfl
  | some d => exact List.all_eq_true.1 h d (List.mem_of_getElem? hi)
def plan_Good.f (l : List S31) : Option Bool := if l.all (fun d => (Lit.int .i64 d.f0).wf) = true then if l.length < maxLen then some (gk l l.length 0) else none else none
set_option linter.unusedVariables false
theorem plan_Good.calls (A0 : Option Addr) (c0 : Nat) (l0 : List S31) (r : Bool) (w : World) (hr0 : Kd.C k31 w A0 l0.length l0) (hc0 : l0.length ≤ c0) (h : plan_Good.f l0 = some r) (hT0 : 0 ≤ w.heap.size) :
    Calls Tryd.prog 81 #[.slice A0 l0.length c0] w fun e w' => e = .returned (.bool r) ∧ Below w.heap.size w w' := by
  unfold plan_Good.f at h
  by_cases h1 : l0.all (fun d => (Lit.int .i64 d.f0).wf) = true
  · rw [if_pos h1] at h
    by_cases h2 : l0.length < maxLen
    · rw [if_pos h2] at h
      obtain rfl := Option.some.inj h
      exact good_walk A0 c0 l0 w hr0 (wf_rd h1) h2
    · rw [if_neg h2] at h; cases h
  · rw [if_neg h1] at h; cases h
set_option maxHeartbeats 4000000 in
set_option maxRecDepth 100000 in
theorem bs_walk (A0 : Option Addr) (c0 : Nat) (l : List S31) (d : S31) (w : World) (hr0 : Kd.C k31 w A0 l.length l) (hlen : l.length ≤ 1000000) :
    Calls Tryd.prog 58 #[.slice A0 l.length c0, .agg #[.int .i64 d.f0, .int .u64 d.f1], .func (.func 84) #[] #[]] w fun e w' => ∃ b : Bool, e = .returned (.tuple #[.int .i64 (bgo l d l.length 0 l.length : Nat), .bool b]) ∧ Below w.heap.size w w' := by
  have HR0 := Aside0.mk hr0
  clear hr0
  go_enter Tryd.func58, Tryd.ntmps58
  go_wp2
  have hbx : Below w.heap.size w (w.alloc (Obj.cells #[Value.int IntKind.i64 d.f0, Value.int IntKind.u64 d.f1] 31)) := below_alloc (Below.refl _ _) _
  have hb0 : (w.alloc (Obj.cells #[Value.int IntKind.i64 d.f0, Value.int IntKind.u64 d.f1] 31)).cell? ⟨w.heap.size, 0, none⟩ = some (.int .i64 d.f0) := by simp
  have hb1 : (w.alloc (Obj.cells #[Value.int IntKind.i64 d.f0, Value.int IntKind.u64 d.f1] 31)).cell? ⟨w.heap.size, 1, none⟩ = some (.int .u64 d.f1) := by simp
  generalize w.alloc (Obj.cells #[Value.int IntKind.i64 d.f0, Value.int IntKind.u64 d.f1] 31) = W0 at hbx hb0 hb1 ⊢
  go_loopg [9, 10] l.length (fun gg v9 v10 wr => ∃ (i j f : Nat), i ≤ j ∧ j ≤ l.length ∧ j - i ≤ f ∧ f ≤ gg ∧ v9 = .int .i64 i ∧ v10 = .int .i64 j ∧ Aside0 (bgo l d l.length 0 l.length = bgo l d f i j) ∧ Below W0.heap.size W0 wr)
  case atStart => exact ⟨0, l.length, l.length, by omega, by omega, by omega, by omega, rfl, rfl, ⟨rfl⟩, Below.refl _ _⟩
  case round =>
    obtain ⟨i, j, f, hij, hj, hf, hfg, rfl, rfl, HG, hb⟩ := hrel
    by_cases hlt : i < j
    · have hlti : (i : Int) < (j : Int) := by omega
      obtain ⟨h, hh⟩ : ∃ h : Nat, (i + j) / 2 = h := ⟨_, rfl⟩
      have e1 : IntKind.i64.wrap ((i : Int) + j) = ((i + j : Nat) : Int) := by rw [i64_w]; unfold wrap64; omega
      go_wp2_with (fail)
      obtain ⟨hI, hhI⟩ : ∃ hI : Int, ((i : Int) + j) / 2 = hI := ⟨_, rfl⟩
      rw [hhI]
      have hIh : hI = (h : Int) := by omega
      have HI := Aside0.mk hIh
      have p1 := eq_true (show 0 ≤ hI by omega)
      have p2 := eq_true (show hI < (l.length : Int) by omega)
      obtain ⟨ad, e2, hx0, hx1⟩ := at_T31 (Kd.C_below HR0.out (below_step hbx hb)) hI (by omega) (by omega)
      subst e2
      have hy0 := (hb.cell (World.block_lt_of_cell? W0 _ hb0)).trans hb0
      have hy1 := (hb.cell (World.block_lt_of_cell? W0 _ hb1)).trans hb1
      clear hhI hIh
      obtain ⟨f, rfl⟩ : ∃ f', f = f' + 1 := ⟨f - 1, by omega⟩
      go_still_tail 6, (by kernel_rfl)
      change wpList _ _ _ _ _ wr.drew
      obtain ⟨r, ho1, ho2, _⟩ := order_is (rd_T31 l hI) d
      have HO2 := Aside0.mk ho2
      clear ho2
      have hb3 : Below W0.heap.size W0 wr.drew := pw_below_drewN hb 1
      generalize wr.drew = W6 at hb3 ⊢
      by_cases hr : r < 0
      · have hrd : decide (r < 0) = true := decide_eq_true hr
        go_wp2_with (go_at_call 84; refine (plan_order.calls 4 _ _ _ _ r _ ho1).mono ?_; rintro e w7 ⟨rfl, hb7⟩)
        have hw : wrap64 (hI + 1) = ((h + 1 : Nat) : Int) := by rw [HI.out]; unfold wrap64; omega
        go_roundg f
        case measure => omega
        case rel => exact ⟨h + 1, j, f, by omega, hj, by omega, Nat.le_refl _, by rw [hw], rfl, ⟨by rw [HG.out, bgo, if_pos hlt, hh, ← HI.out, if_pos (by cases hl : lt (rd_T31 l hI) d with | true => rfl | false => exact absurd (HO2.out.2 hl) (by omega))]⟩, below_step hb3 hb7⟩
      · have hrd : decide (r < 0) = false := decide_eq_false hr
        go_wp2_with (go_at_call 84; refine (plan_order.calls 4 _ _ _ _ r _ ho1).mono ?_; rintro e w7 ⟨rfl, hb7⟩)
        go_roundg f
        case measure => omega
        case rel => exact ⟨i, h, f, by omega, by omega, by omega, Nat.le_refl _, rfl, by rw [HI.out], ⟨by rw [HG.out, bgo, if_pos hlt, hh, ← HI.out, if_neg (by rw [HO2.out.1 (by omega)]; decide)]⟩, below_step hb3 hb7⟩
    · have hlti : ¬ (i : Int) < (j : Int) := by omega
      have hres : bgo l d l.length 0 l.length = i := by
        rw [HG.out]
        cases f with
        | zero => rfl
        | succ f => rw [bgo, if_neg hlt]
      have HRES := Aside0.mk hres
      clear hres
      by_cases hin : i < l.length
      · have hini : (i : Int) < (l.length : Int) := by omega
        go_wp2_with (fail)
        have pi := eq_true (show (0 : Int) ≤ (i : Int) by omega)
        obtain ⟨ad, e2, hx0, hx1⟩ := at_T31 (Kd.C_below HR0.out (below_step hbx hb)) (i : Int) (by omega) (by omega)
        rw [Int.toNat_natCast] at hx0 hx1
        subst e2
        have hy0 := (hb.cell (World.block_lt_of_cell? W0 _ hb0)).trans hb0
        have hy1 := (hb.cell (World.block_lt_of_cell? W0 _ hb1)).trans hb1
        obtain ⟨r, ho1, ho2, _⟩ := order_is (rd_T31 l i) d
        clear ho2
        have hx0' := (hb.cell (World.block_lt_of_cell? W0 _ hb0))
        have l0 := World.block_lt_of_cell? wr _ hx0
        have l1 := World.block_lt_of_cell? wr _ hx1
        have l2 := World.block_lt_of_cell? wr _ hy0
        have l3 := World.block_lt_of_cell? wr _ hy1
        go_region_held3 (fun w' => w'.cell? (ad.add (i * 2)) = some (.int .i64 (rd_T31 l i).f0) ∧ w'.cell? ⟨(ad.add (i * 2)).block, (ad.add (i * 2)).off + 1, none⟩ = some (.int .u64 (rd_T31 l i).f1) ∧ w'.cell? ⟨w.heap.size, 0, none⟩ = some (.int .i64 d.f0) ∧ w'.cell? ⟨w.heap.size, 1, none⟩ = some (.int .u64 d.f1))
          (first | go_keep | exact ⟨(hb7.cell l0).trans hx0, (hb7.cell (p := ⟨(ad.add (i * 2)).block, (ad.add (i * 2)).off + 1, none⟩) l1).trans hx1, (hb7.cell (p := ⟨w.heap.size, 0, none⟩) l2).trans hy0, (hb7.cell (p := ⟨w.heap.size, 1, none⟩) l3).trans hy1⟩)
          ((go_at_call 84; refine (plan_order.calls 4 _ _ _ _ r _ ho1).mono ?_; rintro e w7 ⟨rfl, hb7'⟩; have hb7 := below_step (below_drew1 (Below.refl wr.heap.size wr)) hb7'))
        go_wp2
        go_ret2
        exact ⟨_, by rw [HRES.out]; rfl, below_step hbx (below_step hb hb7)⟩
      · have hini : ¬ (i : Int) < (l.length : Int) := by omega
        go_wp2_with (fail)
        go_quiet (fail)
        go_wp2
        go_ret2
        exact ⟨_, by rw [HRES.out]; rfl, below_step hbx (pw_below_drewN hb _)⟩
set_option maxHeartbeats 4000000 in
set_option maxRecDepth 100000 in
theorem grow_walk (n : Nat) (w : World) (hn : n ≤ 2000000) :
    Calls Tryd.prog 100 #[.slice none 0 0, .int .i64 n] w fun e w' => ∃ v0_, e = .returned v0_ ∧ Kd.R k31 31 w' w.heap.size (fun _ => True) v0_ [] ∧ Below w.heap.size w w' := by
  obtain ⟨v1, w1, hrun, h1, hg, _⟩ := Kd.R_zeros_run (P := Tryd.prog) k31 (W := w) w.heap.size 42 3 42 31 (.agg #[.int .i64 0, .int .u64 0]) 16 Tryd.underlying42 Tryd.underlying3 info31 rfl (by decide) (by decide) (.slice none 0 0) [] z31 (ok := fun _ => True) (k31_mkM _ _ _ z31) (fun _ _ => trivial) (Kd.R_nil _ _ _ _ _) .i64 (n : Int) (by omega) (by simp; omega) (Nat.le_refl _)
  have hb : Below w.heap.size w w1 := ⟨hg.os, hg.tape, hg.output, hg.size, fun k hk => hg.block k hk (by simp [Value.ownBlock])⟩
  by_cases h0 : 0 < n
  · rw [List.nil_append, Int.toNat_natCast] at h1
    obtain ⟨g, cap, rfl, hgb, _, _⟩ := Kd.R_form h1 (by simp; exact h0)
    rw [List.length_replicate] at h1 hrun
    have hR := Kd.R_take (m := 0) h1 (Nat.zero_le _)
    have HR := Aside0.mk hR
    clear hR h1 hg
    have e1 : decide (0 < (n : Int)) = true := decide_eq_true (by omega)
    have e2 : IntKind.i64.wrap (n : Int) = n := by rw [i64_w]; unfold wrap64; omega
    have e3 : decide ((n : Int) < 0) = false := decide_eq_false (by omega)
    obtain ⟨nn, hnn⟩ : ∃ nn : Int, (n : Int) = nn := ⟨_, rfl⟩
    rw [hnn] at hrun e1 e2 e3 ⊢
    clear hnn
    go_enter Tryd.func100, Tryd.ntmps100
    go_wp2_with (at_builtin; refine Lib.wpList_append_run _ (by rfl) (.tmp 20) (.tmp 21) 42 3 (by rfl) (.slice none 0 0) (.int .i64 nn) (by rfl) (by rfl) (.slice (some ⟨g, 0, none⟩) n cap) w1 hrun ?_)
    go_ret
    exact ⟨_, rfl, HR.out, hb⟩
  · have hn0 : n = 0 := by omega
    subst hn0
    go_enter Tryd.func100, Tryd.ntmps100
    go_wp2
    go_ret
    exact ⟨_, rfl, Kd.R_nil _ _ _ _ _, Below.refl _ _⟩
set_option maxHeartbeats 4000000 in
set_option maxRecDepth 100000 in
theorem concat_walk (B : Nat) (A1 A2 : Option Addr) (c1 c2 : Nat) (xs ys : List S31) (w : World) (h1 : w.cell? ⟨B, 0, none⟩ = some (.slice A1 xs.length c1)) (h2 : w.cell? ⟨B, 1, none⟩ = some (.slice A2 ys.length c2)) (hx : Kd.C k31 w A1 xs.length xs) (hy : Kd.C k31 w A2 ys.length ys) (hn : xs.length + ys.length ≤ 2000000) :
    Calls Tryd.prog 86 #[.slice (some ⟨B, 0, none⟩) 2 2] w fun e w' => ∃ v0_, e = .returned v0_ ∧ Kd.R k31 31 w' w.heap.size (fun _ => True) v0_ (xs ++ ys) ∧ Below w.heap.size w w' := by
  have HX := Aside0.mk hx
  have HY := Aside0.mk hy
  clear hx hy
  go_enter Tryd.func86, Tryd.ntmps86
  obtain ⟨n, hxn⟩ : ∃ n : Nat, xs.length = n := ⟨_, rfl⟩
  obtain ⟨m, hym⟩ : ∃ m : Nat, ys.length = m := ⟨_, rfl⟩
  have l1 := World.block_lt_of_cell? w _ h1
  rw [hxn] at h1 HX
  rw [hym] at h2 HY
  have HXN := Aside0.mk hxn
  have HYM := Aside0.mk hym
  rw [hxn, hym] at hn
  clear hxn hym
  obtain ⟨s, hs⟩ : ∃ s : Nat, n + m = s := ⟨_, rfl⟩
  have HSS := Aside0.mk hs
  have hsl : s ≤ 2000000 := by omega
  clear hs
  go_wp2
  go_loopg [3, 11] 2 (fun gg v3 v11 wr => ∃ i : Nat, i ≤ 2 ∧ 2 - i ≤ gg ∧ v11 = .int .i64 i ∧ v3 = .int .i64 (if i = 0 then 0 else if i = 1 then (n : Int) else (s : Int)) ∧ wr = w)
  case atStart => exact ⟨0, by omega, by omega, rfl, rfl, rfl⟩
  case round =>
    obtain ⟨i, hi, hig, rfl, rfl, rfl⟩ := hrel
    match i, hi with
    | 0, _ =>
      go_wp2
      go_roundg 1
      case measure => omega
      case rel => exact ⟨1, by omega, by omega, rfl, by simp, rfl⟩
    | 1, _ =>
      have e1 : IntKind.i64.wrap ((n : Int) + m) = (s : Int) := by have := HSS.out; rw [i64_w]; unfold wrap64; omega
      go_wp2
      go_roundg 0
      case measure => omega
      case rel => exact ⟨2, by omega, by omega, rfl, by simp, rfl⟩
    | 2, _ =>
      go_wp2_with (go_at_call 100; refine (grow_walk s _ hsl).mono ?_; rintro e w2 ⟨v, rfl, HV, hb2⟩; have HV := Aside0.mk HV)
      obtain ⟨W0, hW0⟩ : ∃ W0, W0 = wr := ⟨_, rfl⟩
      subst hW0
      go_loopg [6, 27] 2 (fun gg v6 v27 wk => ∃ j : Nat, j ≤ 2 ∧ 2 - j ≤ gg ∧ v27 = .int .i64 j ∧ Aside0 (Kd.R k31 31 wk W0.heap.size (fun _ => True) v6 (if j = 0 then [] else if j = 1 then xs else xs ++ ys)) ∧ Below W0.heap.size W0 wk)
      case atStart => exact ⟨0, by omega, by omega, rfl, HV, hb2⟩
      case round =>
        obtain ⟨j, hj, hjg, rfl, HV2, hb3⟩ := hrel
        have g1 := (hb3.cell (p := ⟨B, 0, none⟩) l1).trans h1
        have g2 := (hb3.cell (p := ⟨B, 1, none⟩) l1).trans h2
        match j, hj with
        | 0, _ =>
          obtain ⟨v1, w1, hrun, k1, k2⟩ := run_rows (W := wr) 42 A1 n c1 xs HV2.out (Kd.C_below HX.out hb3) hb3.size (by simp; omega)
          go_wp2_with (at_builtin; refine Lib.wpList_append_run _ (by rfl) (.tmp 31) (.tmp 32) 42 42 (by rfl) _ (.slice A1 n c1) (by rfl) (by rfl) v1 w1 hrun ?_)
          go_roundg 1
          case measure => omega
          case rel => exact ⟨1, by omega, by omega, rfl, ⟨k1⟩, hb3.trans k2⟩
        | 1, _ =>
          obtain ⟨v1, w1, hrun, k1, k2⟩ := run_rows (W := wr) 42 A2 m c2 ys HV2.out (Kd.C_below HY.out hb3) hb3.size (by simp [HXN.out]; omega)
          go_wp2_with (at_builtin; refine Lib.wpList_append_run _ (by rfl) (.tmp 31) (.tmp 32) 42 42 (by rfl) _ (.slice A2 m c2) (by rfl) (by rfl) v1 w1 hrun ?_)
          go_roundg 0
          case measure => omega
          case rel => exact ⟨2, by omega, by omega, rfl, ⟨k1⟩, hb3.trans k2⟩
        | 2, _ =>
          go_wp2
          go_ret
          exact ⟨_, rfl, HV2.out, hb3⟩
set_option maxHeartbeats 4000000 in
set_option maxRecDepth 100000 in
theorem insert_walk (A0 : Option Addr) (c0 : Nat) (l : List S31) (d : S31) (w : World) (hr0 : Kd.C k31 w A0 l.length l) (hc0 : l.length ≤ c0) (hlen : l.length ≤ 1000000) (g : Bool) (hg : plan_Good.f l = some g) :
    Calls Tryd.prog 53 #[.slice A0 l.length c0, .agg #[.int .i64 d.f0, .int .u64 d.f1]] w fun e w' => ∃ v0_, e = .returned (.tuple #[v0_, .bool (g && !l.any (fun x => x.f0 == d.f0))]) ∧
      Kd.R k31 31 w' w.heap.size (fun _ => True) v0_ (if (g && !l.any (fun x => x.f0 == d.f0)) = true then l.take (bsp l d) ++ d :: l.drop (bsp l d) else []) ∧ Below w.heap.size w w' := by
  have HR0 := Aside0.mk hr0
  have HC0 := Aside0.mk hc0
  clear hr0
  have hbx : Below w.heap.size w (w.alloc (Obj.cells #[Value.int IntKind.i64 d.f0, Value.int IntKind.u64 d.f1] 31)) := below_alloc (Below.refl _ _) _
  have hb0 : (w.alloc (Obj.cells #[Value.int IntKind.i64 d.f0, Value.int IntKind.u64 d.f1] 31)).cell? ⟨w.heap.size, 0, none⟩ = some (.int .i64 d.f0) := by simp
  have hb1 : (w.alloc (Obj.cells #[Value.int IntKind.i64 d.f0, Value.int IntKind.u64 d.f1] 31)).cell? ⟨w.heap.size, 1, none⟩ = some (.int .u64 d.f1) := by simp
  have hlt0 : w.heap.size < (w.alloc (Obj.cells #[Value.int IntKind.i64 d.f0, Value.int IntKind.u64 d.f1] 31)).heap.size := by simp
  have HHG := Aside0.mk hg
  clear hg
  cases g with
  | false =>
    go_enter Tryd.func53, Tryd.ntmps53
    go_wp2_with (go_at_call 81; refine (plan_Good.calls A0 c0 l false _ (Kd.C_below HR0.out hbx) hc0 HHG.out (Nat.zero_le _)).mono ?_; rintro e w2 ⟨rfl, hb2⟩)
    go_ret2
    exact ⟨_, rfl, Kd.R_nil _ _ _ _ _, below_step hbx hb2⟩
  | true =>
    obtain ⟨q, hq⟩ : ∃ q, l.any (fun x => x.f0 == d.f0) = q := ⟨_, rfl⟩
    rw [hq]
    have HQ := Aside0.mk hq
    clear hq
    cases q with
    | true =>
      go_enter Tryd.func53, Tryd.ntmps53
      go_wp2_with (first
        | (go_at_call 81; refine (plan_Good.calls A0 c0 l true _ (Kd.C_below HR0.out hbx) hc0 HHG.out (Nat.zero_le _)).mono ?_; rintro e w2 ⟨rfl, hb2⟩; have hb0' := (hb2.cell (World.block_lt_of_cell? _ _ hb0)).trans hb0)
        | (go_at_call 83; refine (has_walk d.f0 _).mono ?_; rintro e w3 ⟨rfl, rfl⟩)
        | (go_at_call 82; refine (contains_calls A0 c0 l d.f0 w2.heap.size _ (Kd.C_below HR0.out (below_alloc (below_step hbx hb2) _)) (by simp) (by simp)).mono ?_; rw [HQ.out]; rintro e w4 ⟨rfl, hb4⟩))
      go_ret2
      exact ⟨_, rfl, Kd.R_nil _ _ _ _ _, below_step (below_alloc (below_step hbx hb2) _) hb4⟩
    | false =>
      go_enter Tryd.func53, Tryd.ntmps53
      go_wp2_with (first
        | (go_at_call 81; refine (plan_Good.calls A0 c0 l true _ (Kd.C_below HR0.out hbx) hc0 HHG.out (Nat.zero_le _)).mono ?_; rintro e w2 ⟨rfl, hb2⟩; have hb0' := (hb2.cell (World.block_lt_of_cell? _ _ hb0)).trans hb0)
        | (go_at_call 83; refine (has_walk d.f0 _).mono ?_; rintro e w3 ⟨rfl, rfl⟩)
        | (go_at_call 82; refine (contains_calls A0 c0 l d.f0 w2.heap.size _ (Kd.C_below HR0.out (below_alloc (below_step hbx hb2) _)) (by simp) (by simp)).mono ?_; rw [HQ.out]; rintro e w4 ⟨rfl, hb4⟩; have hb24 := below_step (below_alloc hb2 (Obj.cells #[.int .i64 d.f0] 3)) hb4; have hc0' := (hb24.cell (p := ⟨w.heap.size, 0, none⟩) hlt0).trans hb0; have hc1' := (hb24.cell (p := ⟨w.heap.size, 1, none⟩) hlt0).trans hb1)
        | (go_at_call 58; refine (bs_walk A0 c0 l d _ (Kd.C_below HR0.out (below_step hbx hb24)) hlen).mono ?_; rintro e w5 ⟨bb, rfl, hb5⟩; have hb25 := below_step hb24 hb5))
      clear hc0' hc1' hb0'
      have hc0' := (hb25.cell (p := ⟨w.heap.size, 0, none⟩) hlt0).trans hb0
      have hc1' := (hb25.cell (p := ⟨w.heap.size, 1, none⟩) hlt0).trans hb1
      obtain ⟨kk, hkk⟩ : ∃ kk : Int, ((bgo l d l.length 0 l.length : Nat) : Int) = kk := ⟨_, rfl⟩
      have hkb : bsp l d = kk.toNat := by unfold bsp; omega
      have hkl := bgo_le l d l.length 0 l.length (Nat.zero_le _)
      have hk0 : 0 ≤ kk := by omega
      have hki' : kk ≤ (l.length : Int) := by omega
      rw [hkk]
      clear hkk hkl
      have hkc : kk ≤ (c0 : Int) := by omega
      have q1 := cut_cap A0 l.length c0 kk hk0 hkc
      obtain ⟨i0, hi0, _, hsz0, _⟩ := info_parts info31
      have q2 := cut_from (P := Tryd.prog) 42 31 .i64 Tryd.underlying42 hi0 2 hsz0 A0 l.length c0 kk hk0 hki'
      obtain ⟨A4, hA4⟩ : ∃ A4, A4 = (if c0 = kk.toNat then A0 else A0.map (·.add (kk.toNat * 2))) := ⟨_, rfl⟩
      rw [← hA4] at q2
      have hw1 := below_step hbx hb25
      have HCW := Kd.C_below HR0.out hw1
      have HCD : Aside0 (Kd.C k31 w5 A4 (l.length - kk.toNat) (l.drop kk.toNat)) := ⟨by rw [hA4]; have h := Kd.C_drop (m := kk.toNat) (c := c0) HCW (by omega) hc0; rw [List.length_drop] at h; exact h⟩
      clear hA4
      have HCT : Aside0 (Kd.C k31 w5 A0 kk.toNat (l.take kk.toNat)) := ⟨by have h := Kd.C_take (m := kk.toNat) HCW (by omega); rw [List.length_take, Nat.min_eq_left (by omega)] at h; exact h⟩
      clear hsz0 hi0 HCW
      have hbW : Below w5.heap.size w5 ((w5.alloc (Obj.cells #[Value.int IntKind.i64 d.f0, Value.int IntKind.u64 d.f1] 31)).drew) := below_drew1 (below_alloc (Below.refl _ _) _)
      have hl5 : w.heap.size < w5.heap.size := World.block_lt_of_cell? w5 _ hc0'
      go_region_held3 (fun w' => w'.cell? ⟨w.heap.size, 0, none⟩ = some (.int .i64 d.f0) ∧ w'.cell? ⟨w.heap.size, 1, none⟩ = some (.int .u64 d.f1))
        (first | go_keep | exact ⟨(hby.cell (p := ⟨w.heap.size, 0, none⟩) hl5).trans hc0', (hby.cell (p := ⟨w.heap.size, 1, none⟩) hl5).trans hc1'⟩ | exact ⟨(hbx'.cell (p := ⟨w.heap.size, 0, none⟩) hl5).trans hc0', (hbx'.cell (p := ⟨w.heap.size, 1, none⟩) hl5).trans hc1'⟩)
        (first
          | (refine step_full (K := _) (by rfl) (.tmp 27) (.tmp 29) (by rfl) A0 kk.toNat (l.take kk.toNat) (.slice (some ⟨w5.heap.size, 0, none⟩) 1 1) [d] (by rfl) (by rfl) (Kd.C_drew (Kd.C_alloc HCT.out _)) (Kd.R_drew (R_lit1 w5 d)) (by simp) (by simp; omega) ?_; intro v1 w6 HV1 hb6; have hbx' := below_step hbW hb6)
          | (refine step_rows (K := _) _ (by rfl) (.tmp 30) (.tmp 33) (by rfl) v1 (l.take kk.toNat ++ [d]) A4 (l.length - kk.toNat) (c0 - kk.toNat) (l.drop kk.toNat) (by rfl) (by rfl) HV1 (Kd.C_below HCD.out hbx') hb6.size (by simp; omega) ?_; intro v2 w7 HV2 hb7; have hby := hbx'.trans (hb7.mono hbW.size)))
      go_wp2
      go_ret2
      exact ⟨_, rfl, by have h := Kd.R_lower HV2 (Nat.le_trans hw1.size hbW.size); rw [List.append_assoc] at h; exact h, below_step hw1 hby⟩
def plan_Insert.f (l : List S31) (d0 d1 : Int) : Option (List S31 × Bool) := if l.length ≤ 1000000 then (plan_Good.f l).map fun g => if (g && !l.any (fun x => x.f0 == d0)) = true then (insf l ⟨d0, d1⟩, true) else ([], false) else none
set_option linter.unusedVariables false
theorem plan_Insert.calls (A0 : Option Addr) (c0 : Nat) (l0 : List S31) (a1_0 a1_1 : Int) (r1 : List S31) (r2 : Bool) (w : World) (hr0 : Kd.C k31 w A0 l0.length l0) (hc0 : l0.length ≤ c0) (h : plan_Insert.f l0 a1_0 a1_1 = some (r1, r2)) (hT0 : 0 ≤ w.heap.size) :
    Calls Tryd.prog 53 #[.slice A0 l0.length c0, .agg #[.int .i64 a1_0, .int .u64 a1_1]] w fun e w' => ∃ v0_, e = .returned (.tuple #[v0_, .bool r2]) ∧ Kd.R k31 31 w' w.heap.size (fun _ => True) v0_ r1 ∧ Below w.heap.size w w' := by
  unfold plan_Insert.f at h
  by_cases h1 : l0.length ≤ 1000000
  · rw [if_pos h1] at h
    obtain ⟨g, hg, h⟩ := Option.map_eq_some_iff.1 h
    have hh := insert_walk A0 c0 l0 ⟨a1_0, a1_1⟩ w hr0 hc0 h1 g hg
    refine hh.mono ?_
    rintro e w' ⟨v, he, hR, hb⟩
    refine ⟨v, ?_, ?_, hb⟩
    · rw [he]
      split at h
      · rename_i hc; obtain ⟨-, rfl⟩ := Prod.mk.inj h; rw [hc]
      · rename_i hc; obtain ⟨-, rfl⟩ := Prod.mk.inj h; rw [Bool.eq_false_iff.2 hc]
    · split at h
      · rename_i hc; obtain ⟨rfl, -⟩ := Prod.mk.inj h; rw [if_pos hc] at hR; exact hR
      · rename_i hc; obtain ⟨rfl, -⟩ := Prod.mk.inj h; rw [if_neg hc] at hR; exact hR
  · rw [if_neg h1] at h; cases h
/-- The first place of a number; -1. -/
def idx (l : List S31) (id : Int) : Int := Lib.idxBy (fun _ y => y.f0 == id) l default
theorem idxFrom_range (eq : S31 → S31 → Bool) (x : S31) : ∀ (l : List S31) (i : Nat), Lib.idxByFrom eq x l i = -1 ∨ ((i : Int) ≤ Lib.idxByFrom eq x l i ∧ Lib.idxByFrom eq x l i < ((i + l.length : Nat) : Int)) := by
  intro l
  induction l with
  | nil => intro i; exact .inl rfl
  | cons y l ih =>
    intro i
    unfold Lib.idxByFrom
    split
    · right; simp; omega
    · rcases ih (i + 1) with h | h
      · exact .inl h
      · right; simp at h ⊢; omega
theorem idx_range (l : List S31) (id : Int) : idx l id = -1 ∨ (0 ≤ idx l id ∧ idx l id < l.length) := by
  have h := idxFrom_range (fun _ y => y.f0 == id) default l 0
  unfold idx Lib.idxBy
  simpa using h
theorem concat_calls (B : Nat) (A1 A2 : Option Addr) (n m c1 c2 : Nat) (xs ys : List S31) (w : World) (hxn : xs.length = n) (hym : ys.length = m) (h1 : w.cell? ⟨B, 0, none⟩ = some (.slice A1 n c1)) (h2 : w.cell? ⟨B, 1, none⟩ = some (.slice A2 m c2)) (hx : Kd.C k31 w A1 n xs) (hy : Kd.C k31 w A2 m ys) (hn : n + m ≤ 2000000) :
    Calls Tryd.prog 86 #[.slice (some ⟨B, 0, none⟩) 2 2] w fun e w' => ∃ v0_, e = .returned v0_ ∧ Kd.R k31 31 w' w.heap.size (fun _ => True) v0_ (xs ++ ys) ∧ Below w.heap.size w w' := by
  subst hxn; subst hym
  exact concat_walk B A1 A2 c1 c2 xs ys w h1 h2 hx hy hn
set_option maxHeartbeats 4000000 in
set_option maxRecDepth 100000 in
theorem cancel_walk (A0 : Option Addr) (c0 : Nat) (l : List S31) (id : Int) (w : World) (hr0 : Kd.C k31 w A0 l.length l) (hc0 : l.length ≤ c0) (hlen : l.length ≤ 1000000) (g : Bool) (hg : plan_Good.f l = some g) :
    Calls Tryd.prog 54 #[.slice A0 l.length c0, .int .i64 id] w fun e w' => ∃ v0_, e = .returned (.tuple #[v0_, .bool (g && decide (0 ≤ idx l id))]) ∧
      Kd.R k31 31 w' w.heap.size (fun _ => True) v0_ (if (g && decide (0 ≤ idx l id)) = true then l.take (idx l id).toNat ++ l.drop ((idx l id).toNat + 1) else []) ∧ Below w.heap.size w w' := by
  have HR0 := Aside0.mk hr0
  clear hr0
  have HHG := Aside0.mk hg
  clear hg
  have hidx := idx_range l id
  have hcon := fun W B hB hcell hb => index_calls A0 c0 l id B W (Kd.C_below HR0.out hb) hB hcell
  have hfold : Lib.idxBy (fun _ y => y.f0 == id) l default = idx l id := rfl
  simp only [hfold] at hcon
  generalize idx l id = x at hidx hcon ⊢
  clear hfold
  cases g with
  | false =>
    go_enter Tryd.func54, Tryd.ntmps54
    go_wp2_with (first
      | (go_at_call 83; refine (has_walk id _).mono ?_; rintro e w3 ⟨rfl, rfl⟩)
      | (go_at_call 85; refine (hcon _ w.heap.size (by simp) (by simp) (below_alloc (Below.refl _ _) _)).mono ?_; rintro e w4 ⟨rfl, hb4⟩)
      | (go_at_call 81; refine (plan_Good.calls A0 c0 l false _ (Kd.C_below HR0.out (below_step (below_alloc (Below.refl _ _) _) hb4)) hc0 HHG.out (Nat.zero_le _)).mono ?_; rintro e w2 ⟨rfl, hb2⟩))
    go_ret2
    exact ⟨_, rfl, Kd.R_nil _ _ _ _ _, below_step (below_step (below_alloc (Below.refl _ _) _) hb4) hb2⟩
  | true =>
    by_cases hx : 0 ≤ x
    · have hx1 : decide (x < 0) = false := decide_eq_false (by omega)
      have hx2 : decide (0 ≤ x) = true := decide_eq_true hx
      rw [hx2]
      go_enter Tryd.func54, Tryd.ntmps54
      go_wp2_with (first
        | (go_at_call 83; refine (has_walk id _).mono ?_; rintro e w3 ⟨rfl, rfl⟩)
        | (go_at_call 85; refine (hcon _ w.heap.size (by simp) (by simp) (below_alloc (Below.refl _ _) _)).mono ?_; rintro e w4 ⟨rfl, hb4⟩)
        | (go_at_call 81; refine (plan_Good.calls A0 c0 l true _ (Kd.C_below HR0.out (below_step (below_alloc (Below.refl _ _) _) hb4)) hc0 HHG.out (Nat.zero_le _)).mono ?_; rintro e w2 ⟨rfl, hb2⟩))
      have hw1 := below_step (below_step (below_alloc (Below.refl w.heap.size w) (.cells #[.int .i64 id] 3)) hb4) hb2
      have hxl : x < (l.length : Int) := by omega
      have hxc : x ≤ (c0 : Int) := by omega
      obtain ⟨y, hy⟩ : ∃ y : Int, x + 1 = y := ⟨_, rfl⟩
      have hyw : IntKind.i64.wrap (x + 1) = y := by rw [i64_w]; unfold wrap64; omega
      have hy0 : 0 ≤ y := by omega
      have hyl : y ≤ (l.length : Int) := by omega
      have hyn : y.toNat = x.toNat + 1 := by omega
      have q1 := cut_cap A0 l.length c0 x hx hxc
      obtain ⟨i0, hi0, _, hsz0, _⟩ := info_parts info31
      have q2 := cut_from (P := Tryd.prog) 42 31 .i64 Tryd.underlying42 hi0 2 hsz0 A0 l.length c0 y hy0 hyl
      obtain ⟨A4, hA4⟩ : ∃ A4, A4 = (if c0 = y.toNat then A0 else A0.map (·.add (y.toNat * 2))) := ⟨_, rfl⟩
      rw [← hA4] at q2
      have HCW := Kd.C_below HR0.out hw1
      have HCD : Aside0 (Kd.C k31 w2 A4 (l.length - y.toNat) (l.drop y.toNat)) := ⟨by rw [hA4]; have h := Kd.C_drop (m := y.toNat) (c := c0) HCW (by omega) hc0; rw [List.length_drop] at h; exact h⟩
      clear hA4
      have HCT : Aside0 (Kd.C k31 w2 A0 x.toNat (l.take x.toNat)) := ⟨by have h := Kd.C_take (m := x.toNat) HCW (by omega); rw [List.length_take, Nat.min_eq_left (by omega)] at h; exact h⟩
      have HYN := Aside0.mk hyn
      clear hsz0 hi0 HCW hy hyn
      have hbW : Below w2.heap.size w2 ((w2.alloc (Obj.cells #[Value.slice A0 x.toNat x.toNat, Value.slice A4 (l.length - y.toNat) (c0 - y.toNat)] 42)).drew) := below_drew1 (below_alloc (Below.refl _ _) _)
      go_region_held3 (fun _ => True) (trivial)
        ((go_at_call 86; refine (concat_calls w2.heap.size A0 A4 x.toNat (l.length - y.toNat) x.toNat (c0 - y.toNat) (l.take x.toNat) (l.drop y.toNat) _ (by rw [List.length_take]; omega) (by rw [List.length_drop]) (by simp) (by simp) (Kd.C_below HCT.out hbW) (Kd.C_below HCD.out hbW) (by omega)).mono ?_; rintro e w5 ⟨v, rfl, HV, hb5⟩))
      go_wp2
      go_ret2
      refine ⟨_, rfl, ?_, below_step hw1 (below_step hbW hb5)⟩
      have h := Kd.R_lower HV (Nat.le_trans hw1.size hbW.size)
      rw [HYN.out] at h
      exact h
    · have hx1 : decide (x < 0) = true := decide_eq_true (by omega)
      have hx2 : decide (0 ≤ x) = false := decide_eq_false hx
      rw [hx2]
      go_enter Tryd.func54, Tryd.ntmps54
      go_wp2_with (first
        | (go_at_call 83; refine (has_walk id _).mono ?_; rintro e w3 ⟨rfl, rfl⟩)
        | (go_at_call 85; refine (hcon _ w.heap.size (by simp) (by simp) (below_alloc (Below.refl _ _) _)).mono ?_; rintro e w4 ⟨rfl, hb4⟩)
        | (go_at_call 81; refine (plan_Good.calls A0 c0 l true _ (Kd.C_below HR0.out (below_step (below_alloc (Below.refl _ _) _) hb4)) hc0 HHG.out (Nat.zero_le _)).mono ?_; rintro e w2 ⟨rfl, hb2⟩))
      go_ret2
      exact ⟨_, rfl, Kd.R_nil _ _ _ _ _, below_step (below_step (below_alloc (Below.refl _ _) _) hb4) hb2⟩
/-- What Cancel computes. -/
def canf (l : List S31) (id : Int) : List S31 := l.take (idx l id).toNat ++ l.drop ((idx l id).toNat + 1)
def plan_Cancel.f (l : List S31) (id : Int) : Option (List S31 × Bool) := if l.length ≤ 1000000 then (plan_Good.f l).map fun g => if (g && decide (0 ≤ idx l id)) = true then (canf l id, true) else ([], false) else none
set_option linter.unusedVariables false
theorem plan_Cancel.calls (A0 : Option Addr) (c0 : Nat) (l0 : List S31) (a1 : Int) (r1 : List S31) (r2 : Bool) (w : World) (hr0 : Kd.C k31 w A0 l0.length l0) (hc0 : l0.length ≤ c0) (h : plan_Cancel.f l0 a1 = some (r1, r2)) (hT0 : 0 ≤ w.heap.size) :
    Calls Tryd.prog 54 #[.slice A0 l0.length c0, .int .i64 a1] w fun e w' => ∃ v0_, e = .returned (.tuple #[v0_, .bool r2]) ∧ Kd.R k31 31 w' w.heap.size (fun _ => True) v0_ r1 ∧ Below w.heap.size w w' := by
  unfold plan_Cancel.f at h
  by_cases h1 : l0.length ≤ 1000000
  · rw [if_pos h1] at h
    obtain ⟨g, hg, h⟩ := Option.map_eq_some_iff.1 h
    have hh := cancel_walk A0 c0 l0 a1 w hr0 hc0 h1 g hg
    refine hh.mono ?_
    rintro e w' ⟨v, he, hR, hb⟩
    refine ⟨v, ?_, ?_, hb⟩
    · rw [he]
      split at h
      · rename_i hc; obtain ⟨-, rfl⟩ := Prod.mk.inj h; rw [hc]
      · rename_i hc; obtain ⟨-, rfl⟩ := Prod.mk.inj h; rw [Bool.eq_false_iff.2 hc]
    · split at h
      · rename_i hc; obtain ⟨rfl, -⟩ := Prod.mk.inj h; rw [if_pos hc] at hR; exact hR
      · rename_i hc; obtain ⟨rfl, -⟩ := Prod.mk.inj h; rw [if_neg hc] at hR; exact hR
  · rw [if_neg h1] at h; cases h
theorem wi {i : Int} {n : Nat} (h0 : 0 ≤ i) (h1 : i < n) (hn : n ≤ 2000000) : wrap64 (i + 1) = i + 1 := by unfold wrap64; omega
/-- At or before x. -/
def le (x : Int) (d : S31) : Bool := decide (d.f1 ≤ x)
def gt (x : Int) (d : S31) : Bool := !decide (d.f1 ≤ x)
theorem split_from (l : List S31) (a : Int) (hl : l.length ≤ 2000000) : ∀ (d : Nat) (i : Nat) (x y : List S31), l.length - i = d → i ≤ l.length → x.length + y.length ≤ i → ∀ k, PBase.plan_Split.l0 (k + d + 1) a x y l (l.length : Int) (i : Int) = some (x ++ (l.drop i).filter (le a), y ++ (l.drop i).filter (gt a)) := by
  intro d
  induction d with
  | zero =>
    intro i x y hd hi hxy k
    rw [PBase.plan_Split.l0, if_neg (by omega), List.drop_eq_nil_of_le (by omega)]
    simp
  | succ d ih =>
    intro i x y hd hi hxy k
    have hlt : i < l.length := by omega
    rw [show k + (d + 1) + 1 = (k + d + 1) + 1 by omega, PBase.plan_Split.l0, if_pos (by omega), if_pos (by omega), if_pos (by omega), List.drop_eq_getElem_cons hlt, rd_nat l i hlt, wi (n := l.length) (by omega) (by omega) hl]
    by_cases hc : l[i].f1 ≤ a
    · rw [if_pos hc, if_pos (by omega)]
      have := ih (i + 1) (x ++ [l[i]]) y (by omega) (by omega) (by simp; omega) k
      rw [List.filter_cons_of_pos (by simp [le, hc]), List.filter_cons_of_neg (by simp [gt, hc])]
      simpa using this
    · rw [if_neg hc, if_pos (by omega)]
      have := ih (i + 1) x (y ++ [l[i]]) (by omega) (by omega) (by simp; omega) k
      rw [List.filter_cons_of_neg (by simp [le, hc]), List.filter_cons_of_pos (by simp [gt]; omega)]
      simpa using this
theorem split (l : List S31) (a : Int) (hl : l.length ≤ 2000000) (k : Nat) : PBase.plan_Split.f (k + l.length + 1) l a = some (l.filter (le a), l.filter (gt a)) := by
  unfold PBase.plan_Split.f
  exact split_from l a hl l.length 0 [] [] (by omega) (Nat.zero_le _) (Nat.zero_le _) k
/-- The numbers fit. -/
def Ok (l : List S31) : Prop := ∀ d ∈ l, (Lit.int .i64 d.f0).wf = true
theorem gk_iff (l : List S31) : ∀ (d : Nat) (i : Nat), l.length - i = d → i ≤ l.length → (gk l d i = true ↔ ∀ j, i ≤ j → (hj : j < l.length) → ¬ l[j].f0 ∈ ((l.take j).map (·.f0)) ∧ (0 < j → lt (rd_T31 l ((j : Int) - 1)) l[j] = true)) := by
  intro d
  induction d with
  | zero =>
    intro i hd hi
    simp only [gk, true_iff]
    intro j h1 h2
    omega
  | succ d ih =>
    intro i hd hi
    have hlt : i < l.length := by omega
    rw [gk, rd_nat l i hlt]
    have step := ih (i + 1) (by omega) (by omega)
    by_cases h1 : ((l.take i).map (·.f0)).contains l[i].f0 = true
    · rw [if_pos h1]
      simp only [Bool.false_eq_true, false_iff]
      intro h
      exact (h i (Nat.le_refl _) hlt).1 (by simpa using h1)
    · rw [if_neg h1]
      by_cases h2 : i > 0 ∧ lt (rd_T31 l ((i : Int) - 1)) l[i] = false
      · rw [if_pos h2]
        simp only [Bool.false_eq_true, false_iff]
        intro h
        have := (h i (Nat.le_refl _) hlt).2 h2.1
        rw [h2.2] at this
        cases this
      · rw [if_neg h2, step]
        constructor
        · intro h j hij hj
          rcases Nat.eq_or_lt_of_le hij with e | e
          · subst e
            refine ⟨fun hm => h1 (by simpa using hm), fun h0 => ?_⟩
            cases hl : lt (rd_T31 l ((i : Int) - 1)) l[i] with
            | true => rfl
            | false => exact absurd ⟨h0, hl⟩ h2
          · exact h j e hj
        · intro h j hij hj
          exact h j (by omega) hj
theorem gk_gd (l : List S31) : gk l l.length 0 = true ↔ Gd l := by
  rw [gk_iff l l.length 0 (by omega) (Nat.zero_le _)]
  constructor
  · intro h
    constructor
    · rw [List.nodup_iff_pairwise_ne, List.pairwise_iff_getElem]
      intro i j hi hj hij
      simp only [List.length_map] at hi hj
      have := (h j (Nat.zero_le _) hj).1
      intro e
      apply this
      rw [List.mem_map]
      refine ⟨l[i], ?_, by simpa using e⟩
      rw [List.mem_take_iff_getElem]
      exact ⟨i, by omega, rfl⟩
    · rw [List.pairwise_iff_getElem]
      intro i j hi hj hij
      obtain ⟨m, rfl⟩ : ∃ m, j = i + 1 + m := ⟨j - (i + 1), by omega⟩
      induction m with
      | zero =>
        have := (h (i + 1) (Nat.zero_le _) hj).2 (by omega)
        rw [show (((i + 1 : Nat) : Int) - 1) = (i : Int) by omega, rd_nat l i hi] at this
        exact this
      | succ m ih =>
        have h1 := ih (by omega) (by omega)
        have := (h (i + 1 + (m + 1)) (Nat.zero_le _) hj).2 (by omega)
        rw [show (((i + 1 + (m + 1) : Nat) : Int) - 1) = ((i + 1 + m : Nat) : Int) by omega, rd_nat l (i + 1 + m) (by omega)] at this
        rw [lt_iff] at *
        omega
  · rintro ⟨h1, h2⟩ j _ hj
    rw [List.nodup_iff_pairwise_ne, List.pairwise_iff_getElem] at h1
    rw [List.pairwise_iff_getElem] at h2
    constructor
    · intro hm
      rw [List.mem_map] at hm
      obtain ⟨d, hd, e⟩ := hm
      rw [List.mem_take_iff_getElem] at hd
      obtain ⟨i, hi, rfl⟩ := hd
      exact h1 i j (by simp; omega) (by simpa using hj) (by omega) (by simpa using e)
    · intro h0
      rw [show ((j : Int) - 1) = ((j - 1 : Nat) : Int) by omega, rd_nat l (j - 1) (by omega)]
      exact h2 (j - 1) j (by omega) hj (by omega)
theorem good (l : List S31) (ho : Ok l) (hl : l.length ≤ 2000000) : plan_Good.f l = some (gk l l.length 0) := by
  unfold plan_Good.f
  rw [if_pos (List.all_eq_true.2 ho), if_pos (by unfold maxLen; omega)]
theorem good_true (l : List S31) (ho : Ok l) (hl : l.length ≤ 2000000) (hg : Gd l) : plan_Good.f l = some true := by
  rw [good l ho hl, (gk_gd l).2 hg]
theorem cancel_in {l : List S31} (hn : (ids l).Nodup) {id : Int} (h : id ∈ ids l) : 0 ≤ idx l id ∧ canf l id = rm l id := by
  obtain ⟨p, h1, h2, h3⟩ := idx_in id l hn h 0
  have : idx l id = (p : Int) := by unfold idx Lib.idxBy; rw [h2]; simp
  refine ⟨by omega, ?_⟩
  unfold canf
  rw [this, Int.toNat_natCast]
  exact h3
theorem cancel_out {l : List S31} {id : Int} (h : ¬ id ∈ ids l) : idx l id = -1 := idx_out id l h 0
theorem ins_yes {l : List S31} (ho : Ok l) (hl : l.length ≤ 1000000) (hg : Gd l) {i a : Int} (h : ¬ i ∈ ids l) : plan_Insert.f l i a = some (psort (⟨i, a⟩ :: l), true) := by
  unfold plan_Insert.f
  rw [if_pos hl, good_true l ho (by omega) hg, Option.map_some, any_false l i h, if_pos (by decide), insf_eq hg.so]
theorem ins_no {l : List S31} (ho : Ok l) (hl : l.length ≤ 1000000) {i a : Int} (h : ¬ Gd l ∨ i ∈ ids l) : plan_Insert.f l i a = some ([], false) := by
  unfold plan_Insert.f
  rw [if_pos hl, good l ho (by omega), Option.map_some, if_neg]
  intro hc
  rw [Bool.and_eq_true, Bool.not_eq_true'] at hc
  rcases h with h | h
  · exact h ((gk_gd l).1 hc.1)
  · rw [(any_ids l i).2 h] at hc
    exact absurd hc.2 (by decide)
theorem can_yes {l : List S31} (ho : Ok l) (hl : l.length ≤ 1000000) (hg : Gd l) {i : Int} (h : i ∈ ids l) : plan_Cancel.f l i = some (rm l i, true) := by
  obtain ⟨h1, h2⟩ := cancel_in hg.1 h
  unfold plan_Cancel.f
  rw [if_pos hl, good_true l ho (by omega) hg, Option.map_some, decide_eq_true h1, if_pos (by decide), h2]
theorem can_no {l : List S31} (ho : Ok l) (hl : l.length ≤ 1000000) {i : Int} (h : ¬ Gd l ∨ ¬ i ∈ ids l) : plan_Cancel.f l i = some ([], false) := by
  unfold plan_Cancel.f
  rw [if_pos hl, good l ho (by omega), Option.map_some, if_neg]
  intro hc
  rw [Bool.and_eq_true, decide_eq_true_eq] at hc
  rcases h with h | h
  · exact h ((gk_gd l).1 hc.1)
  · have := cancel_out h; omega
end Go.Proofs.YtedolmjealgeoaaDoor.Pn
