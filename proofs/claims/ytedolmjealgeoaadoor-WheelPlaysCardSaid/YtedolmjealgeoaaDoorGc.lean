/- The shelf's contracts of slices.IndexFunc, ContainsFunc, BinarySearchFunc at the seat's functions; what has(id) tells. Conditions: those of the contracts. -/
import Derived.Test.YtedolmjealgeoaaDoorPBasex2
import Derived.Test.YtedolmjealgeoaaDoorGb
import Derived.Shelf.SlicesQ.IndexFunc
import Derived.Shelf.Lay
import Derived.Ground.SlgfProg
import Derived.Lib.SliceRun
import Derived.Test.YtedolmjealgeoaaDoorGa
import Derived.Maps.Range
import Derived.Test.YtedolmjealgeoaaDoorPBasex4
import Derived.Laws.BitsAllLaws
namespace Go.Proofs
open Go.Shelf Go.RowKit Go.Lib
shelf_lay_g SlLaysH0.n6 Slgf 6 at Tryd 85 as Tryd.indexFunc
shelf_lay_g SlLaysH0.n8 Slgf 8 at Tryd 82 as Tryd.containsFunc
end Go.Proofs
namespace Go.Proofs.YtedolmjealgeoaaDoor.Laid
open Go.Shelf Go.RowKit Go.Lib Go.Proofs.YtedolmjealgeoaaDoor.PBase
/-- A timer's two cells. -/
def enc (x : S31) : List Value := [.int .i64 x.f0, .int .u64 x.f1]
/-- The closure of has(id): its number is id; id lies in the cell ⟨B, 0⟩. -/
theorem pred64 (id : Int) (B : Nat) (w : World) (hB : B < w.heap.size) (hcell : w.cell? ⟨B, 0, none⟩ = some (.int .i64 id)) :
    PredBelow Tryd.prog 64 #[.pointer (some ⟨B, 0, none⟩)] (fun x => .agg (enc x).toArray) (fun x => x.f0 == id) w := fun W x hb => by
  have hc : W.cell? ⟨B, 0, none⟩ = some (.int .i64 id) := (hb.cell (p := ⟨B, 0, none⟩) hB).trans hcell
  have hBW : B < W.heap.size := Nat.lt_of_lt_of_le hB hb.size
  have hne : B ≠ W.heap.size := by omega
  show Calls Tryd.prog 64 #[.agg #[.int .i64 x.f0, .int .u64 x.f1], .pointer (some ⟨B, 0, none⟩)] W _
  go_enter Tryd.func64, Tryd.ntmps64
  go_wp2
  all_goals (go_ret; exact ⟨by simp_all, hb.alloc hb.size _⟩)
end Go.Proofs.YtedolmjealgeoaaDoor.Laid

namespace Go.Proofs.YtedolmjealgeoaaDoor.Rg
open Go.Shelf Go.Lib Go.RowKit Go.Maps Go.Proofs.YtedolmjealgeoaaDoor.PBase Go.Proofs.YtedolmjealgeoaaDoor.Cat Go.Proofs.YtedolmjealgeoaaDoorW.PrintWords Go.Proofs.YtedolmjealgeoaaDoorW.PrintLast Go.Proofs.YtedolmjealgeoaaDoorW.PrintMore
set_option linter.unusedVariables false
theorem cells_of {w : World} {A0 : Option Addr} {l : List S31} (hr0 : Kd.C k31 w A0 l.length l) (h0 : 0 < l.length) : ∃ b off, A0 = some ⟨b, off, none⟩ ∧ b < w.heap.size ∧ ∀ j, j < l.length → ∀ i v, (Laid.enc l[j]!)[i]? = some v → w.cell? ⟨b, off + j * 2 + i, none⟩ = some v := by
  obtain ⟨ad, rfl, _⟩ := hr0.2.2 h0
  have hc := C_cells hr0
  have hf : (flat l)[0]? ≠ none := by
    intro h
    have := List.getElem?_eq_none_iff.1 h
    rw [flat_len] at this
    omega
  obtain ⟨u, hu⟩ := Option.ne_none_iff_exists'.1 hf
  have h1 := hc 0 u hu
  obtain ⟨b, off, sp⟩ := ad
  have hsp : sp = none := by
    cases sp with
    | none => rfl
    | some s =>
      exfalso
      unfold World.cell? at h1
      simp only [Addr.add] at h1
      split at h1 <;> simp at h1
  subst hsp
  refine ⟨b, off, rfl, World.block_lt_of_cell? w _ h1, fun j hj i v hv => ?_⟩
  have h2 : i < 2 := by have := (List.getElem?_eq_some_iff.1 hv).1; simpa [Laid.enc] using this
  have h3 := (reps_flat (R := fun x cs => cs = enc x) (fun x => rfl) l).2 j _ (List.getElem?_eq_getElem hj)
  have h4 : (flat l)[j * 2 + i]? = some v := by
    rw [getElem!_pos l j hj] at hv
    have : ((flat l).drop (j * 2)).take 2 = Laid.enc l[j] := h3
    rw [← this, List.getElem?_take, if_pos h2, List.getElem?_drop] at hv
    exact hv
  have h5 := hc (j * 2 + i) v h4
  rw [Addr.add_lit, ← Nat.add_assoc] at h5
  exact h5
theorem enters64 : ∀ args w, (callFunc 64 args).run Tryd.prog w = .ok (.enter 64 args) w := enters_of Tryd.func64 (by kernel_rfl) rfl
theorem index_nil (A : Option Addr) (c : Nat) (f : Value) (w : World) : Calls Tryd.prog 85 #[.slice A 0 c, f] w fun e w' => e = .returned (.int .i64 (-1)) ∧ Below w.heap.size w w' := by
  go_enter Tryd.func85, Tryd.ntmps85
  go_wp2
  go_loopg [8] 1 (fun _ v8 wr => v8 = .int .i64 0 ∧ wr = w)
  case atStart => exact ⟨rfl, rfl⟩
  case round =>
    obtain ⟨rfl, rfl⟩ := hrel
    go_wp2
    go_ret
    exact ⟨rfl, Below.refl _ _⟩
theorem index_calls (A0 : Option Addr) (c0 : Nat) (l : List S31) (id : Int) (B : Nat) (w : World) (hr0 : Kd.C k31 w A0 l.length l) (hB : B < w.heap.size) (hcell : w.cell? ⟨B, 0, none⟩ = some (.int .i64 id)) :
    Calls Tryd.prog 85 #[.slice A0 l.length c0, .func (.func 64) #[] #[.pointer (some ⟨B, 0, none⟩)]] w fun e w' => e = .returned (.int .i64 (Lib.idxBy (fun _ y => y.f0 == id) l default)) ∧ Below w.heap.size w w' := by
  rcases Nat.eq_zero_or_pos l.length with h0 | h0
  · obtain rfl := List.eq_nil_of_length_eq_zero h0
    exact index_nil A0 c0 _ w
  · obtain ⟨b, off, rfl, hb, hc⟩ := cells_of hr0 h0
    have h := AnyQ.slices_IndexFunc Tryd.indexFunc 2 Tryd.isAgg31 Tryd.sizeOf31 Laid.enc (fun _ => rfl) (fun x => x.f0 == id) 64 #[.pointer (some ⟨B, 0, none⟩)] enters64 b off l.length c0 l w (Laid.pred64 id B w hB hcell) (Nat.le_refl _) hr0.2.1 hb hc
    rw [List.take_length] at h
    exact h
end Go.Proofs.YtedolmjealgeoaaDoor.Rg

set_option linter.unusedVariables false
namespace Go.Proofs.YtedolmjealgeoaaDoor.Rg
open Go.Shelf Go.Lib Go.RowKit Go.Proofs.YtedolmjealgeoaaDoor.PBase Go.Proofs.YtedolmjealgeoaaDoor.Cat Go.Proofs.YtedolmjealgeoaaDoorW.PrintWords Go.Proofs.YtedolmjealgeoaaDoorW.PrintLast Go.Proofs.YtedolmjealgeoaaDoorW.PrintMore
theorem run_clear2 (w : World) (ty : TypeId) (g o n c : Nat) (cur : Array Value) (t : TypeId) (hn : 0 < n) (hg : w.heap[g]? = some (.cells cur t (0, 0))) (hfit : o + n * 2 ≤ cur.size) :
    ∃ zs : List Value, zs.length = n * 2 ∧ (Builtin.clear_ #[42] ty #[.slice (some ⟨g, o, none⟩) n c]).run Tryd.prog w = .ok (.tuple #[]) (w.setRow g (cur.toList.take o ++ zs ++ cur.toList.drop (o + zs.length)).toArray) := by
  obtain ⟨i0, hi, hzz⟩ := Option.map_eq_some_iff.1 info31
  simp only [Prod.mk.injEq] at hzz
  obtain ⟨hz0, hz1, hz2⟩ := hzz
  have hzl : ((Builtin.zeroCells (Value.agg #[.int .i64 0, .int .u64 0]).cells n).toList).length = n * 2 := by simp [Builtin.zeroCells, Value.cells]
  refine ⟨(Builtin.zeroCells (Value.agg #[.int .i64 0, .int .u64 0]).cells n).toList, hzl, ?_⟩
  have h1 : ∀ v ∈ (Builtin.zeroCells (Value.agg #[.int .i64 0, .int .u64 0]).cells n).toList, v.oneCell' = true := by
    intro v hv
    simp [Builtin.zeroCells, Value.cells] at hv
    obtain ⟨a, _, rfl⟩ := hv
    rcases Nat.mod_two_eq_zero_or_one a with e | e <;> rw [e] <;> rfl
  have hst := run_storeCells_at Tryd.prog g o t _ 0 cur w hg (by rw [hzl]; simpa using hfit) h1
  obtain ⟨n, rfl⟩ : ∃ m, n = m + 1 := ⟨n - 1, by omega⟩
  simp [Builtin.clear_, run_underlying Tryd.underlying42, zeroValue, typeInfo, hi, hz0, hst]
theorem set_R {W : World} {base g n cap : Nat} {ok : Nat → Prop} {L : List S31} (h : Kd.R k31 31 W base ok (.slice (some ⟨g, 0, none⟩) n cap) L) {i : Nat} (hi : i < L.length) (d : S31) :
    Kd.R k31 31 (W.setCells g (i * 2) (enc d)) base (fun _ => True) (.slice (some ⟨g, 0, none⟩) n cap) (L.set i d) ∧ W.grownBy (W.setCells g (i * 2) (enc d)) (some g) := by
  have hR := Kd.R_mono h (ok' := fun _ => True) (fun _ _ => trivial)
  have hn := (Kd.R_reads' hR).1
  obtain ⟨ad, c, e1, hcl, hK, hc⟩ := Kd.C_get (Kd.R_reads' hR).2.2 z31 (i : Int) (by omega) (by omega)
  injection e1 with e1
  subst e1
  have hcl' : c.length = 2 := hcl
  obtain ⟨h1, g1⟩ := Kd.R_seg (okp := fun _ => False) hR (i : Int) (by omega) (by omega) (c := c) (j := 0) (seg := enc d) (x' := d) hcl (fun j u hu => by have := hc j u hu; rwa [Addr.add_lit, Nat.zero_add] at this) (by simp [enc, Kd.iso, Kd.pair, Kd.int, Kd.scalar, k31])
    (by rw [List.take_zero, List.nil_append, List.drop_eq_nil_of_le (by simp [enc, hcl']), List.append_nil]; exact k31_mkM _ _ _ _) (fun _ h => h.elim)
  have eW : (W.setCells g ((i : Int).toNat * k31.sz + 0) (enc d)) = W.setCells g (i * 2) (enc d) := by
    rw [Int.toNat_natCast]
    rfl
  rw [eW, Int.toNat_natCast] at h1
  rw [eW] at g1
  exact ⟨h1, g1⟩
theorem idx_spec (id : Int) : ∀ (l : List S31) (i : Nat), (Lib.idxByFrom (fun _ y : S31 => y.f0 == id) default l i = -1 ∧ ∀ y ∈ l, (y.f0 == id) = false) ∨ ∃ k, ∃ hk : k < l.length, Lib.idxByFrom (fun _ y : S31 => y.f0 == id) default l i = ((i + k : Nat) : Int) ∧ (l[k].f0 == id) = true ∧ ∀ y ∈ l.take k, (y.f0 == id) = false
  | [], _ => .inl ⟨rfl, fun y hy => absurd hy List.not_mem_nil⟩
  | y :: r, i => by
    cases h : (y.f0 == id) with
    | true => exact .inr ⟨0, by simp, by simp [Lib.idxByFrom, h], by simpa using h, fun y hy => absurd hy (by simp)⟩
    | false =>
      have e0 : Lib.idxByFrom (fun _ y : S31 => y.f0 == id) default (y :: r) i = Lib.idxByFrom (fun _ y : S31 => y.f0 == id) default r (i + 1) := by simp [Lib.idxByFrom, h]
      rw [e0]
      rcases idx_spec id r (i + 1) with ⟨e, ha⟩ | ⟨k, hk, e, ht, ha⟩
      · refine .inl ⟨e, fun z hz => ?_⟩
        rcases List.mem_cons.1 hz with rfl | hz
        · exact h
        · exact ha z hz
      · refine .inr ⟨k + 1, by simpa using hk, by rw [e]; congr 1; omega, by simpa using ht, fun z hz => ?_⟩
        rw [List.take_succ_cons] at hz
        rcases List.mem_cons.1 hz with rfl | hz
        · exact h
        · exact ha z hz
theorem clo_calls (id : Int) (B : Nat) (W : World) (hB : B < W.heap.size) (hcell : W.cell? ⟨B, 0, none⟩ = some (.int .i64 id)) (x : S31) (r : Bool) (hr : (x.f0 == id) = r) : Calls Tryd.prog 64 #[.agg #[.int .i64 x.f0, .int .u64 x.f1], .pointer (some ⟨B, 0, none⟩)] W fun e w' => e = .returned (.bool r) ∧ Below W.heap.size W w' := by
  subst hr
  have h := Laid.pred64 id B W hB hcell W x (Below.refl _ _)
  exact h
/-- What the loop keeps. -/
structure DI (id : Int) (xs M : List S31) (i j : Nat) : Prop where
  lt : i < j
  le : j ≤ xs.length
  len : M.length = xs.length
  lo : M.take i = (xs.take j).filter (fun y => !(y.f0 == id))
  hi : M.drop j = xs.drop j
theorem DI.start {id : Int} {xs : List S31} {k : Nat} (hk : k < xs.length) (ht : (xs[k].f0 == id) = true) (ha : ∀ y ∈ xs.take k, (y.f0 == id) = false) : DI id xs xs k (k + 1) := by
  refine ⟨by omega, by omega, rfl, ?_, rfl⟩
  rw [List.take_succ_eq_append_getElem hk, List.filter_append]
  have h1 : (xs.take k).filter (fun y => !(y.f0 == id)) = xs.take k := List.filter_eq_self.2 (fun y hy => by rw [ha y hy]; rfl)
  rw [h1, List.filter_cons_of_neg (by rw [ht]; decide)]
  simp
theorem DI.get {id : Int} {xs M : List S31} {i j : Nat} (h : DI id xs M i j) (hj : j < xs.length) : M[j]'(by rw [h.len]; exact hj) = xs[j] := by
  have h1 : (M.drop j)[0]? = (xs.drop j)[0]? := by rw [h.hi]
  rw [List.getElem?_drop, List.getElem?_drop, Nat.add_zero, List.getElem?_eq_getElem (by rw [h.len]; exact hj), List.getElem?_eq_getElem hj] at h1
  exact Option.some.inj h1
theorem DI.skip {id : Int} {xs M : List S31} {i j : Nat} (h : DI id xs M i j) (hj : j < xs.length) (hx : (xs[j].f0 == id) = true) : DI id xs M i (j + 1) := by
  refine ⟨by have := h.lt; omega, by omega, h.len, ?_, ?_⟩
  · rw [List.take_succ_eq_append_getElem hj, List.filter_append, ← h.lo, List.filter_cons_of_neg (by rw [hx]; decide)]
    simp
  · rw [← List.drop_drop, ← List.drop_drop, h.hi]
theorem DI.keep {id : Int} {xs M : List S31} {i j : Nat} (h : DI id xs M i j) (hj : j < xs.length) (hx : (xs[j].f0 == id) = false) : DI id xs (M.set i xs[j]) (i + 1) (j + 1) := by
  have hij := h.lt
  have hl := h.len
  refine ⟨by omega, by omega, by rw [List.length_set, hl], ?_, ?_⟩
  · rw [List.take_succ_eq_append_getElem hj, List.filter_append, ← h.lo, List.filter_cons_of_pos (by rw [hx]; rfl), List.filter_nil]
    rw [List.take_succ_eq_append_getElem (by rw [List.length_set]; omega), List.getElem_set_self, List.take_set, List.set_eq_of_length_le (by rw [List.length_take]; omega)]
  · rw [List.drop_set_of_lt (by omega), ← List.drop_drop, ← List.drop_drop, h.hi]
theorem DI.end {id : Int} {xs M : List S31} {i : Nat} (h : DI id xs M i xs.length) : M.take i = xs.filter (fun y => !(y.f0 == id)) := by
  rw [h.lo, List.take_length]
theorem own_cells {w : World} {base g n cap : Nat} {ok : Nat → Prop} {L : List S31} (h : Kd.R k31 31 w base ok (.slice (some ⟨g, 0, none⟩) n cap) L) {i : Nat} (hi : i < L.length) : ∃ cur, w.heap[g]? = some (.cells cur 31 (0, 0)) ∧ w.cell? ⟨g, i * 2, none⟩ = some (.int .i64 (rd_T31 L i).f0) ∧ w.cell? ⟨g, i * 2 + 1, none⟩ = some (.int .u64 (rd_T31 L i).f1) := by
  have hown := own_of_R h
  rcases hown.2 with ⟨h0, _⟩ | ⟨g', cap', cur, he, _, hg, _⟩
  · cases h0
  · injection he with he1 he2 he3
    injection he1 with he1
    injection he1 with he1
    subst he1
    obtain ⟨ad, e1, hx0, hx1⟩ := at_T31 (Kd.R_reads' h).2.2 (i : Int) (by omega) (by have := (Kd.R_reads' h).1; omega)
    injection e1 with e1
    subst e1
    rw [Int.toNat_natCast, Addr.add_lit, Nat.zero_add] at hx0 hx1
    exact ⟨cur, hg, hx0, hx1⟩
set_option maxHeartbeats 4000000 in
set_option maxRecDepth 100000 in
theorem delete_calls {W : World} {base : Nat} {ok : Nat → Prop} {v : Value} {xs : List S31} (h : Kd.R k31 31 W base ok v xs) (id : Int) (B : Nat) (hB : W.heap[B]? = some (.cells #[.int .i64 id] 3 (0, 0))) (hl : xs.length ≤ 1000000) :
    Calls Tryd.prog 63 #[v, .func (.func 64) #[] #[.pointer (some ⟨B, 0, none⟩)]] W fun e w' => ∃ v1, e = .returned v1 ∧ Kd.R k31 31 w' base (fun _ => True) v1 (xs.filter (fun y => !(y.f0 == id))) ∧ Fr (fun k => v.ownBlock = some k) W w' ∧ v1.ownBlock = v.ownBlock := by
  have hcB : W.cell? ⟨B, 0, none⟩ = some (.int .i64 id) := (blk_cell hB 0).trans rfl
  have hBl := blk_lt hB
  obtain ⟨A, c, e0, hc, hC⟩ := Kd.R_reads h
  have hI := index_calls A c xs id B W hC hBl hcB
  rw [← e0] at hI
  rcases idx_spec id xs 0 with ⟨e1, hall⟩ | ⟨k, hk, e1, ht, hall⟩
  · have e2 : Lib.idxBy (fun _ y : S31 => y.f0 == id) xs default = -1 := e1
    rw [e2] at hI
    have hf : xs.filter (fun y => !(y.f0 == id)) = xs := List.filter_eq_self.2 (fun y hy => by rw [hall y hy]; rfl)
    rw [hf]
    have H := Aside0.mk h
    clear h hf hall e1 e2 hC
    subst e0
    go_enter Tryd.func63, Tryd.ntmps63
    go_wp2_with (go_at_call 85; refine hI.mono ?_; rintro e w1 ⟨rfl, hb1⟩)
    go_ret
    exact ⟨_, rfl, Kd.R_mono (Kd.R_below H.out hb1) (fun _ _ => trivial), Fr.of_below hb1, rfl⟩
  · have e2 : Lib.idxBy (fun _ y : S31 => y.f0 == id) xs default = (k : Int) := by unfold Lib.idxBy; rw [e1, Nat.zero_add]
    rw [e2] at hI
    have hown := own_of_R h
    rcases hown.2 with ⟨_, h0⟩ | ⟨g, cap, cur0, rfl, hbg, hg, hnc, hcm, hcs, hcur⟩
    · omega
    have hgB : g ≠ B := fun e => by rw [e, hB] at hg; cases hg
    have hne1 : ((k : Int) == -1) = false := beq_eq_false_iff_ne.2 (by omega)
    have hD := Aside0.mk (DI.start hk ht hall)
    have hcap : cap ≤ 9223372036854775807 := by unfold maxLen at hcm; omega
    have H := Aside0.mk (Kd.R_mono h (ok' := fun _ => True) (fun _ _ => trivial))
    have HB := Aside0.mk hB
    clear h hall ht e1 e2 hown hg hcs hcur e0 hC hB hcB
    go_enter Tryd.func63, Tryd.ntmps63
    go_wp2_with (go_at_call 85; refine hI.mono ?_; rintro e w1 ⟨rfl, hb1⟩)
    clear hI
    go_loopg [5, 6] xs.length (fun gg v5 v6 wr => ∃ (i j : Nat) (M : List S31), v5 = .int .i64 i ∧ v6 = .int .i64 j ∧ i < j ∧ j ≤ xs.length ∧ xs.length - j ≤ gg ∧ Aside0 (DI id xs M i j) ∧ Aside0 (Kd.R k31 31 wr base (fun _ => True) (.slice (some ⟨g, 0, none⟩) xs.length cap) M) ∧ Aside0 (Fr (fun k => k = g) W wr))
    case atStart => exact ⟨k, k + 1, xs, rfl, by go_num, by omega, by omega, by omega, hD, ⟨Kd.R_below H.out hb1⟩, ⟨Fr.of_below hb1⟩⟩
    case round =>
      obtain ⟨i, j, M, rfl, rfl, hij, hjl, hgg, hDI, hR, hF⟩ := hrel
      clear hD H hb1
      by_cases hlt : j < xs.length
      · have hltz : (j : Int) < (xs.length : Int) := by omega
        have hML : M.length = xs.length := hDI.out.len
        have hCM := (Kd.R_reads' hR.out).2.2
        obtain ⟨ad, e1, hx0, hx1⟩ := at_T31 hCM (j : Int) (by omega) (by omega)
        injection e1 with e1
        subst e1
        rw [Int.toNat_natCast, Addr.add_lit, Nat.zero_add] at hx0 hx1
        have hrd : rd_T31 M (j : Int) = xs[j] := by rw [rd_nat M j (by omega), hDI.out.get hlt]
        rw [hrd] at hx0 hx1
        clear hrd hCM
        obtain ⟨x, hx⟩ : ∃ x, xs[j] = x := ⟨_, rfl⟩
        rw [hx] at hx0 hx1
        have hX := Aside0.mk hx
        clear hx
        have hcW : Aside0 (∀ w', Below wr.heap.size wr w' → B < w'.heap.size ∧ w'.cell? ⟨B, 0, none⟩ = some (.int .i64 id)) := ⟨fun w' hb => by
          have h1 := (hF.out.blk B hBl (fun e => hgB e.symm)).trans HB.out
          have h2 := blk_below h1 hb
          exact ⟨blk_lt h2, (blk_cell h2 0).trans rfl⟩⟩
        have hbx := Aside0.mk (below_alloc (Below.refl wr.heap.size wr) (.cells #[.int .i64 x.f0, .int .u64 x.f1] 31))
        cases hq : (x.f0 == id) with
        | true =>
          go_wp2_with (go_at_call 64; refine (clo_calls id B _ (hcW.out _ hbx.out).1 (hcW.out _ hbx.out).2 x true hq).mono ?_; rintro e w2 ⟨rfl, hb2⟩)
          go_roundg (xs.length - (j + 1))
          case measure => omega
          case rel => exact ⟨i, j + 1, M, rfl, by go_num, by omega, by omega, Nat.le_refl _, ⟨hDI.out.skip hlt (by rw [hX.out]; exact hq)⟩, ⟨Kd.R_below hR.out (below_step hbx.out hb2)⟩, ⟨hF.out.trans (Fr.of_below (below_step hbx.out hb2))⟩⟩
        | false =>
          have hi0 : (i : Int) < (xs.length : Int) := by omega
          go_wp2_with (go_at_call 64; refine (clo_calls id B _ (hcW.out _ hbx.out).1 (hcW.out _ hbx.out).2 x false hq).mono ?_; rintro e w2 ⟨rfl, hb2⟩; have hbox := Aside0.mk (blk_below (blk_new wr (.cells #[.int .i64 x.f0, .int .u64 x.f1] 31)) hb2); have y0 := (blk_cell hbox.out 0).trans rfl; have y1 := (blk_cell hbox.out 1).trans rfl; have hb3 := Aside0.mk (below_step hbx.out hb2); obtain ⟨cur2, hg2, z0, z1⟩ := own_cells (Kd.R_below hR.out hb3.out) (show i < M.length by omega); have f0 := blk_frozen hg2 (i * 2); have f1 := blk_frozen hg2 (i * 2 + 1); replace hg2 := Aside0.mk hg2)
          have hset := set_R (Kd.R_below hR.out hb3.out) (show i < M.length by omega) x
          have hF2 := hF.out.trans (Fr.of_below hb3.out)
          have hDK := hDI.out.keep hlt (by rw [hX.out]; exact hq)
          rw [hX.out] at hDK
          go_roundg (xs.length - (j + 1))
          case measure => omega
          case rel => exact ⟨i + 1, j + 1, M.set i x, by go_num, by go_num, by omega, by omega, Nat.le_refl _, ⟨hDK⟩, ⟨hset.1⟩, ⟨hF2.trans (Fr.of_grown hset.2 (fun k e => (Option.some.inj e).symm))⟩⟩
      · obtain rfl : j = xs.length := by omega
        have hltz : ¬ (xs.length : Int) < (xs.length : Int) := by omega
        have hML : M.length = xs.length := hDI.out.len
        have hown := own_of_R hR.out
        rcases hown.2 with ⟨h0, _⟩ | ⟨g', cap', cur, he, hbg', hg, hnc', hcm', hcs, hcur⟩
        · cases h0
        injection he with he1 he2 he3
        injection he1 with he1
        injection he1 with he1
        subst he1 he3
        clear he2
        obtain ⟨zs, hzl, hcl⟩ := run_clear2 wr 0 g (i * 2) (xs.length - i) (cap - i) cur 31 (by omega) hg (by omega)
        have hb1 : (i : Int) ≤ (xs.length : Int) := by omega
        have hb2 : i ≤ xs.length := by omega
        have hb4 : ¬ (cap = i) := by omega
        have hFin := Aside0.mk (And.intro hg (And.intro hcs hcur))
        clear hown hg hcs hcur
        have hb5 : i ≤ cap := by omega
        replace hzl := Aside0.mk hzl
        replace hML := Aside0.mk hML
        replace hbg' := Aside0.mk hbg'
        replace hnc' := Aside0.mk hnc'
        replace hcm' := Aside0.mk hcm'
        go_wp2
        go_ret
        replace hzl := hzl.out
        replace hML := hML.out
        replace hbg' := hbg'.out
        replace hnc' := hnc'.out
        replace hcm' := hcm'.out
        refine ⟨_, rfl, ?_, (hF.out.weak (fun k e => by rw [e]; rfl)).trans ((Fr.setRow wr g _).weak (fun k e => by rw [e]; rfl)), rfl⟩
        have hll : (M.take i).length = i := by rw [List.length_take]; omega
        rw [← hDI.out.end]
        show Kd.R k31 31 _ base (fun _ => True) (.slice (some ⟨g, 0, none⟩) i cap) _
        obtain ⟨h1, h2, h3⟩ := hFin.out
        have h4 := R_of_own (w := wr.setRow g (cur.toList.take (i * 2) ++ zs ++ cur.toList.drop (i * 2 + zs.length)).toArray) (base := base) (v := .slice (some ⟨g, 0, none⟩) (M.take i).length cap) (xs := M.take i) ⟨flat_len _, .inr ⟨g, cap, _, rfl, hbg', setRow_heap wr g cur _ 31 (0, 0) h1, by omega, hcm', ?_, ?_⟩⟩
        · rw [hll, List.append_assoc] at h4
          exact h4
        · simp only [List.size_toArray, List.length_append, List.length_take, List.length_drop, Array.length_toList, hzl]
          omega
        · show (cur.toList.take (i * 2) ++ zs ++ _).take _ = _
          have hl5 : (cur.toList.take (i * 2)).length = i * 2 := by rw [List.length_take, Array.length_toList]; omega
          rw [hll, List.append_assoc, List.take_append_of_le_length (by omega), List.take_of_length_le (by omega), flat_take, ← h3, List.take_take, Nat.min_eq_left (by omega)]
end Go.Proofs.YtedolmjealgeoaaDoor.Rg

set_option linter.unusedVariables false
namespace Go.Proofs.YtedolmjealgeoaaDoor.Rg
open Go.RowKit Go.Maps Go.Proofs.YtedolmjealgeoaaDoor.PBase Go.Proofs.YtedolmjealgeoaaDoor.Cat Go.Proofs.YtedolmjealgeoaaDoorW.PrintWords Go.Proofs.YtedolmjealgeoaaDoorW.PrintLast Go.Proofs.YtedolmjealgeoaaDoorW.PrintMore
theorem law3 : Keyed Tryd.prog 3 := int_keyed Tryd.underlying3
/-- The elements' kinds: int, uint64. -/
structure EK (q : IntKind) (e t : TypeId) : Prop where
  el : Tryd.prog.underlying e = some (.int q)
  mp : Tryd.prog.underlying t = some (.map 3 e)
  z : ∀ w, (zeroValue e).run Tryd.prog w = .ok (.int q 0) w
theorem ek3 : EK .i64 3 103 := ⟨Tryd.underlying3, Tryd.underlying103, fun w => by kernel_rfl⟩
theorem ek29 : EK .u64 29 123 := ⟨Tryd.underlying29, Tryd.underlying123, fun w => by kernel_rfl⟩
/-- Block m is a map that reads as f; c entries. -/
def MI (q : IntKind) (e : TypeId) (w : World) (m : Nat) (f : Int → Option Int) (c : Nat) : Prop :=
  ∃ (n : Nat) (D : DataW Unit), w.ownsMap Tryd.prog 3 (plainElem Tryd.prog e) m n D ∧ (∀ x : Int, Maps.has D (.int .i64 x) = (f x).isSome) ∧ (∀ x y, f x = some y → ∀ z, D.atKey (.int .i64 x) z = .lit (.int q y)) ∧ Maps.size D = c
def upd (f : Int → Option Int) (x : Int) (y : Option Int) : Int → Option Int := fun z => if z = x then y else f z
theorem upd_same (f : Int → Option Int) (x : Int) (y : Option Int) : upd f x y x = y := if_pos rfl
theorem upd_other {f : Int → Option Int} {x : Int} {y : Option Int} {z : Int} (h : z ≠ x) : upd f x y z = f z := if_neg h
theorem keyX {x : Int} (hx : (Lit.int .i64 x).wf = true) : keyOf Tryd.prog 3 (.int .i64 x) = some (.int .i64 x) := keyOf_int_mk Tryd.underlying3 hx
theorem ne_lit {x y : Int} (h : x ≠ y) : (Lit.int .i64 x) ≠ Lit.int .i64 y := fun e => h (by injection e)
section
variable {q : IntKind} {e t : TypeId} {w w' : World} {m c : Nat} {f : Int → Option Int}
theorem MI.lt (h : MI q e w m f c) : m < w.heap.size := by
  obtain ⟨n, D, h1, _⟩ := h
  exact h1.lt
theorem MI.blk (h : MI q e w m f c) : ∃ es ck, w.heap[m]? = some (.map es ck) := by
  obtain ⟨n, D, ⟨es, ck, h1, _⟩, _⟩ := h
  exact ⟨es, ck, h1⟩
theorem MI.keep (h : MI q e w m f c) (hb : w'.heap[m]? = w.heap[m]?) : MI q e w' m f c := by
  obtain ⟨n, D, ⟨es, ck, h1, h2⟩, h3⟩ := h
  exact ⟨n, D, ⟨es, ck, hb.trans h1, h2⟩, h3⟩
theorem MI.fr {F : Nat → Prop} (h : MI q e w m f c) (hf : Fr F w w') (hm : ¬ F m) : MI q e w' m f c := h.keep (hf.blk m h.lt hm)
theorem MI.congr {g : Int → Option Int} (h : MI q e w m f c) (hg : ∀ x, f x = g x) : MI q e w m g c := by
  rw [← show f = g from funext hg]
  exact h
theorem MI.made (q : IntKind) (e : TypeId) (w : World) : MI q e (w.alloc (.map #[] 0)) w.heap.size (fun _ => none) 0 :=
  ⟨0, .map [], World.ownsMap_made _ _ _ _, fun x => rfl, fun x y h => (by cases h), rfl⟩
theorem MI.look (K : EK q e t) (h : MI q e w m f c) {x : Int} (hx : (Lit.int .i64 x).wf = true) (N : Nat) : (Instr.lookup t (.map (some m)) (.int .i64 x) true).run Tryd.prog (w.drewN N) = .ok (.tuple #[.int q ((f x).getD 0), .bool (f x).isSome]) (w.drewN N) := by
  have h' : MI q e (w.drewN N) m f c := h.keep rfl
  obtain ⟨n, D, h1, h2, h3, _⟩ := h'
  obtain ⟨v, ps, hrun, hv⟩ := h1.look_ok law3 K.mp (K.z _) (plainElem_int K.el (by cases q <;> decide)) (keyX hx)
  rw [hrun, h2 x]
  have e1 : v = .int q ((f x).getD 0) := by
    obtain ⟨a, rfl, hz, _⟩ := plainElem_int_inv K.el hv
    simp only [Prod.mk.injEq] at hz
    cases hf : f x with
    | none =>
      have hh := h2 x
      rw [hf] at hh
      rw [Maps.atKey_of_not_has hh] at hz
      have := hz.1
      simp only [DataW.lit.injEq, Lit.int.injEq] at this
      rw [← this.2]
      rfl
    | some y =>
      rw [h3 x y hf] at hz
      have := hz.1
      simp only [DataW.lit.injEq, Lit.int.injEq] at this
      rw [← this.2]
      rfl
  rw [e1]
theorem MI.len (K : EK q e t) (h : MI q e w m f c) (ty : TypeId) : (Builtin.len_ #[t] ty #[.map (some m)]).run Tryd.prog w = .ok (.int .i64 c) w := by
  obtain ⟨n, D, h1, _, _, h4⟩ := h
  rw [h1.len K.mp ty, h4]
theorem MI.store (K : EK q e t) (h : MI q e w m f c) (hc : c < maxLen) {x y : Int} (hx : (Lit.int .i64 x).wf = true) (hy : (Lit.int q y).wf = true) :
    ∃ w', (Instr.mapUpdate t (.map (some m)) (.int .i64 x) (.int q y)).run Tryd.prog w = .ok () w' ∧ MI q e w' m (upd f x (some y)) (if (f x).isSome = true then c else c + 1) ∧ w.mapTurned w' m := by
  obtain ⟨n, D, h1, h2, h3, h4⟩ := h
  have ht := h1.tidy law3
  have h1' : w.ownsMap Tryd.prog 3 (plainElem Tryd.prog e) m (Maps.size D) D := by
    obtain ⟨es, ck, a1, a2, a3, a4⟩ := h1
    refine ⟨es, ck, a1, a2, ?_, a4⟩
    rw [a4]
    simp [Maps.size, length_sorted]
  obtain ⟨w', hr, ho, hm⟩ := h1'.store law3 K.mp (by rw [h4]; exact hc) (keyX hx) (plainElem_int K.el hy)
  refine ⟨w', hr, ⟨_, _, ho, fun z => ?_, fun z u hz d => ?_, ?_⟩, hm⟩
  · by_cases e1 : z = x
    · subst e1
      rw [Maps.has_put_same ht.isMap (show WideAt.IsKeyLit (.int .i64 z) from trivial), upd_same]
      rfl
    · rw [Maps.has_put_other (ne_lit e1), upd_other e1, h2]
  · by_cases e1 : z = x
    · subst e1
      rw [upd_same] at hz
      obtain rfl := Option.some.inj hz
      rw [Maps.atKey_put_same ht.isMap (show WideAt.IsKeyLit (.int .i64 z) from trivial)]
    · rw [upd_other e1] at hz
      rw [Maps.atKey_put_other (ne_lit e1), h3 z u hz]
  · rw [Maps.size_put ht, h2, h4]
theorem MI.drop (K : EK q e t) (h : MI q e w m f c) {x : Int} (hx : (Lit.int .i64 x).wf = true) (ty : TypeId) :
    ∃ w', (Builtin.delete_ #[t, 3] ty #[.map (some m), .int .i64 x]).run Tryd.prog w = .ok (.tuple #[]) w' ∧ MI q e w' m (upd f x none) (if (f x).isSome = true then c - 1 else c) ∧ w.mapTurned w' m := by
  obtain ⟨n, D, h1, h2, h3, h4⟩ := h
  have ht := h1.tidy law3
  obtain ⟨w', hr, ho, hm⟩ := h1.drop law3 K.mp (keyX hx) ty
  refine ⟨w', hr, ⟨_, _, ho, fun z => ?_, fun z u hz d => ?_, ?_⟩, hm⟩
  · by_cases e1 : z = x
    · subst e1
      rw [Maps.has_del_same, upd_same]
      rfl
    · rw [Maps.has_del_other (ne_lit e1), upd_other e1, h2]
  · by_cases e1 : z = x
    · subst e1
      rw [upd_same] at hz
      cases hz
    · rw [upd_other e1] at hz
      rw [Maps.atKey_del_other (ne_lit e1), h3 z u hz]
  · have := Maps.size_del (k := .int .i64 x) ht
    rw [h2, h4] at this
    split <;> rename_i e1
    · rw [if_pos e1] at this; omega
    · rw [if_neg e1] at this; omega
theorem Fr.of_turned (h : w.mapTurned w' m) : Fr (fun k => k = m) w w' := Fr.of_grown h.grown (fun k e => (Option.some.inj e).symm)
end
end Go.Proofs.YtedolmjealgeoaaDoor.Rg

namespace Go.Proofs.YtedolmjealgeoaaDoor.Mk
open Go.RowKit Go.Proofs.YtedolmjealgeoaaDoor.PBase Go.Proofs.YtedolmjealgeoaaDoor.Tz Go.Proofs.YtedolmjealgeoaaDoorW.PrintWords Go.Proofs.YtedolmjealgeoaaDoorW.PrintLast Go.Proofs.YtedolmjealgeoaaDoorW.PrintMore

/-- A number of 64 bits. -/
def U (m : Int) : Prop := 0 ≤ m ∧ m < 18446744073709551616
theorem U.nat {m : Int} (h : U m) : m.toNat < 2 ^ 64 := by unfold U at h; rw [show (2 : Nat) ^ 64 = 18446744073709551616 by decide]; omega
/-- Is the slot in? -/
def hs (m i : Int) : Bool := decide (0 ≤ i ∧ i < 64) && m.toNat.testBit i.toNat
theorem hs_of {m i : Int} (h0 : 0 ≤ i) (h1 : i < 64) : hs m i = m.toNat.testBit i.toNat := by unfold hs; rw [decide_eq_true ⟨h0, h1⟩, Bool.true_and]
theorem hs_out {m i : Int} (h : ¬ (0 ≤ i ∧ i < 64)) : hs m i = false := by unfold hs; rw [decide_eq_false h, Bool.false_and]
theorem hs_in {m i : Int} (h : hs m i = true) : 0 ≤ i ∧ i < 64 := by
  by_cases hh : 0 ≤ i ∧ i < 64
  · exact hh
  · rw [hs_out hh] at h; cases h
theorem ext {a b : Int} (ha : U a) (hb : U b) (h : ∀ i, 0 ≤ i → i < 64 → hs a i = hs b i) : a = b := by
  have e : a.toNat = b.toNat := by
    apply Nat.eq_of_testBit_eq
    intro i
    by_cases hi : i < 64
    · have := h i (by omega) (by omega)
      rw [hs_of (by omega) (by omega), hs_of (by omega) (by omega), Int.toNat_natCast] at this
      exact this
    · rw [Nat.testBit_lt_two_pow (Nat.lt_of_lt_of_le ha.nat (Nat.pow_le_pow_right (by decide) (by omega))), Nat.testBit_lt_two_pow (Nat.lt_of_lt_of_le hb.nat (Nat.pow_le_pow_right (by decide) (by omega)))]
  unfold U at ha hb
  omega
theorem isIn (i : Int) : mask_is.f i = some (decide (0 ≤ i ∧ i < 64)) := by
  unfold mask_is.f
  by_cases h : i ≥ 0
  · rw [if_pos h]; congr 1; rw [decide_eq_decide]; omega
  · rw [if_neg h]; congr 1; symm; rw [decide_eq_false_iff_not]; omega
/-- The set of one slot. -/
def one (i : Int) : Nat := if 0 ≤ i ∧ i < 64 then 2 ^ i.toNat else 0
theorem one_lt (i : Int) : one i < 2 ^ 64 := by
  unfold one
  split
  · exact Nat.pow_lt_pow_right (by decide) (by omega)
  · exact Nat.pow_pos (by decide)
theorem one_lt' (i : Int) : one i < 18446744073709551616 := one_lt i
theorem shl_one {i : Int} (h0 : 0 ≤ i) (h1 : i < 64) : shl .u64 1 i = ((one i : Nat) : Int) := by
  have e : one i = 2 ^ i.toNat := by unfold one; rw [if_pos ⟨h0, h1⟩]
  have hlt := one_lt' i
  have hm : min i.toNat 64 = i.toNat := Nat.min_eq_left (by omega)
  unfold shl
  rw [IntKind.wrap_u64, show IntKind.u64.bits = 64 from rfl, hm, Int.one_mul, show ((2 : Int) ^ i.toNat) = ((2 ^ i.toNat : Nat) : Int) by push_cast; rfl, ← e]
  omega
theorem bit (i : Int) : mask_bit.f i = some ((one i : Nat) : Int) := by
  unfold mask_bit.f
  rw [isIn]
  simp only [Option.bind_some, decide_eq_true_eq]
  by_cases h : 0 ≤ i ∧ i < 64
  · rw [if_pos h, if_pos h.1, shl_one h.1 h.2]
  · rw [if_neg h]
    unfold one
    rw [if_neg h]
    rfl
theorem testBit_one (i : Int) (j : Nat) : (one i).testBit j = (decide (0 ≤ i ∧ i < 64) && decide (i.toNat = j)) := by
  unfold one
  by_cases h : 0 ≤ i ∧ i < 64
  · rw [if_pos h, decide_eq_true h, Bool.true_and, Nat.testBit_two_pow]
  · rw [if_neg h, decide_eq_false h, Bool.false_and, Nat.zero_testBit]
def wi (m i : Int) : Int := ((m.toNat ||| one i : Nat) : Int)
def wo (m i : Int) : Int := ((m.toNat &&& (18446744073709551615 - one i) : Nat) : Int)
theorem with_ {m : Int} (hm : U m) (i : Int) : mask_With.f m i = some (wi m i) := by
  unfold mask_With.f
  have hlt := one_lt' i
  rw [bit, Option.bind_some, u64_or m _ hm.1 hm.2 (by omega) (by omega), Int.toNat_natCast]
  rfl
theorem without {m : Int} (hm : U m) (i : Int) : mask_Without.f m i = some (wo m i) := by
  unfold mask_Without.f
  have hlt := one_lt' i
  rw [bit, Option.bind_some, u64_andNot m _ hm.1 hm.2 (by omega) (by omega), Int.toNat_natCast]
  rfl
theorem U_with {m : Int} (hm : U m) (i : Int) : U (wi m i) := by
  have := Nat.or_lt_two_pow hm.nat (one_lt i)
  rw [show (2 : Nat) ^ 64 = 18446744073709551616 by decide] at this
  unfold U wi; omega
theorem U_without {m : Int} (hm : U m) (i : Int) : U (wo m i) := by
  have := Nat.and_lt_two_pow (18446744073709551615 - one i) hm.nat
  rw [Nat.and_comm] at this
  rw [show (2 : Nat) ^ 64 = 18446744073709551616 by decide] at this
  unfold U wo
  omega
theorem hs_with (m i k : Int) : hs (wi m i) k = (hs m k || (decide (k = i) && decide (0 ≤ i ∧ i < 64))) := by
  by_cases h : 0 ≤ k ∧ k < 64
  · rw [hs_of h.1 h.2, hs_of h.1 h.2, wi, Int.toNat_natCast, Nat.testBit_or, testBit_one]
    congr 1
    rw [Bool.and_comm]
    by_cases hi : 0 ≤ i ∧ i < 64
    · rw [decide_eq_true hi]
      congr 1
      rw [decide_eq_decide]; omega
    · rw [decide_eq_false hi]; simp
  · rw [hs_out h, hs_out h, Bool.false_or]
    by_cases he : k = i
    · subst he; rw [decide_eq_false h]; simp
    · rw [decide_eq_false he]; rfl
theorem hs_without (m i k : Int) : hs (wo m i) k = (hs m k && !decide (k = i)) := by
  by_cases h : 0 ≤ k ∧ k < 64
  · have e : (18446744073709551615 - one i : Nat) = 2 ^ 64 - (one i + 1) := by rw [show (2 : Nat) ^ 64 = 18446744073709551616 by decide]; omega
    rw [hs_of h.1 h.2, hs_of h.1 h.2, wo, Int.toNat_natCast, Nat.testBit_and, e, Nat.testBit_two_pow_sub_succ (one_lt i), testBit_one, decide_eq_true (show k.toNat < 64 by omega), Bool.true_and]
    congr 2
    by_cases he : k = i
    · subst he; rw [decide_eq_true h]; simp
    · rw [decide_eq_false he]
      by_cases hi : 0 ≤ i ∧ i < 64
      · rw [decide_eq_true hi, decide_eq_false (by omega)]; rfl
      · rw [decide_eq_false hi]; rfl
  · rw [hs_out h, hs_out h, Bool.false_and]

/-! ### The next one -/
/-- r is what Next tells, from f on. -/
def IsNext (m f : Int) (r : Int × Bool) : Prop := r.2 = true ∧ f ≤ r.1 ∧ 0 ≤ r.1 ∧ hs m r.1 = true ∧ (∀ j, 0 ≤ j → f ≤ j → j < r.1 → hs m j = false) ∨ r = (0, false) ∧ ∀ j, 0 ≤ j → f ≤ j → hs m j = false
theorem IsNext.unique {m f : Int} {r s : Int × Bool} (h : IsNext m f r) (k : IsNext m f s) : r = s := by
  rcases h with ⟨h1, h2, h3, h4, h5⟩ | ⟨rfl, h⟩
  · rcases k with ⟨k1, k2, k3, k4, k5⟩ | ⟨rfl, k⟩
    · have : r.1 = s.1 := by
        rcases Int.lt_trichotomy r.1 s.1 with hlt | he | hlt
        · have := k5 _ h3 h2 hlt; rw [h4] at this; cases this
        · exact he
        · have := h5 _ k3 k2 hlt; rw [k4] at this; cases this
      exact Prod.ext this (h1.trans k1.symm)
    · have := k _ h3 h2; rw [h4] at this; cases this
  · rcases k with ⟨k1, k2, k3, k4, k5⟩ | ⟨rfl, k⟩
    · have := h _ k3 k2; rw [k4] at this; cases this
    · rfl
theorem ctz_bits (x : Nat) (h0 : x ≠ 0) (h : x < 2 ^ 64) : x.testBit (Lib.ctz 64 x) = true ∧ (∀ j, j < Lib.ctz 64 x → x.testBit j = false) ∧ Lib.ctz 64 x < 64 := by
  have e : Lib.ctz 64 x = Lib.ctzFrom 64 x := by unfold Lib.ctz; rw [if_neg h0]
  obtain ⟨q, hq, hlt⟩ := Lib.ctzFrom_spec 64 x (Nat.pos_of_ne_zero h0) h
  rw [← e] at hq hlt
  refine ⟨?_, fun j hj => ?_, hlt⟩
  · conv => lhs; arg 1; rw [hq]
    rw [Nat.mul_comm, Nat.testBit_mul_two_pow]
    simp
  · conv => lhs; arg 1; rw [hq]
    rw [Nat.mul_comm, Nat.testBit_mul_two_pow]
    simp [show ¬ Lib.ctz 64 x ≤ j by omega]
theorem shr_nat {m f : Int} (hm : U m) (h0 : 0 ≤ f) (h1 : f < 64) : shr .u64 m f = ((m.toNat / 2 ^ f.toNat : Nat) : Int) := by
  have e : ((m.toNat : Nat) : Int) = m := by unfold U at hm; omega
  unfold shr
  rw [show IntKind.u64.bits = 64 from rfl, Nat.min_eq_left (by omega)]
  rw [← e, Int.toNat_natCast]
  push_cast
  rfl
theorem next {m : Int} (hm : U m) (f : Int) : ∃ r, mask_Next.f m f = some r ∧ IsNext m f r := by
  obtain ⟨g, hg, g0, hgf⟩ : ∃ g, mx f 0 = g ∧ 0 ≤ g ∧ (∀ j, 0 ≤ j → (f ≤ j ↔ g ≤ j)) := by
    refine ⟨_, rfl, ?_, fun j hj => ?_⟩ <;> unfold mx <;> split <;> omega
  unfold mask_Next.f
  rw [hg]
  by_cases h64 : g ≥ 64
  · rw [if_pos h64]
    exact ⟨_, rfl, .inr ⟨rfl, fun j hj hfj => hs_out (fun hh => by have := (hgf j hj).1 hfj; omega)⟩⟩
  rw [if_neg h64, shr_nat hm g0 (by omega)]
  have hlt : m.toNat / 2 ^ g.toNat < 2 ^ 64 := Nat.lt_of_le_of_lt (Nat.div_le_self _ _) hm.nat
  have htb : ∀ j : Nat, (m.toNat / 2 ^ g.toNat).testBit j = m.toNat.testBit (g.toNat + j) := fun j => by rw [← Nat.shiftRight_eq_div_pow, Nat.testBit_shiftRight]
  by_cases hz : m.toNat / 2 ^ g.toNat = 0
  · rw [hz, if_pos (by rfl)]
    refine ⟨_, rfl, .inr ⟨rfl, fun j hj hfj => ?_⟩⟩
    by_cases hh : 0 ≤ j ∧ j < 64
    · have := htb (j.toNat - g.toNat)
      have hge := (hgf j hj).1 hfj
      rw [hz, Nat.zero_testBit, show g.toNat + (j.toNat - g.toNat) = j.toNat by omega] at this
      rw [hs_of hh.1 hh.2, ← this]
    · exact hs_out hh
  · rw [if_neg (by omega)]
    have hb := ctz_bits _ hz hlt
    rw [show (2 : Nat) ^ 64 = 18446744073709551616 by decide] at hlt
    obtain ⟨c, hc⟩ : ∃ c, Lib.ctz 64 (m.toNat / 2 ^ g.toNat) = c := ⟨_, rfl⟩
    rw [hc] at hb
    obtain ⟨b1, b2, b3⟩ := hb
    have hlt64 : g.toNat + c < 64 := by
      rw [htb] at b1
      apply Decidable.byContradiction
      intro hge
      rw [Nat.testBit_lt_two_pow (Nat.lt_of_lt_of_le hm.nat (Nat.pow_le_pow_right (by decide) (by omega)))] at b1
      cases b1
    unfold Gv.bits_TrailingZeros64.f Tz.bits_TrailingZeros64.f
    rw [if_pos (Int.natCast_nonneg _), if_pos (by omega), Int.toNat_natCast, hc, Option.bind_some, show wrap64 (g + (c : Int)) = g + c by unfold wrap64; omega]
    refine ⟨_, rfl, .inl ⟨rfl, (hgf _ (by omega)).2 (by show g ≤ g + c; omega), by show 0 ≤ g + (c : Int); omega, ?_, fun j hj hfj hjl => ?_⟩⟩
    · show hs m (g + c) = true
      rw [hs_of (by omega) (by omega), show (g + (c : Int)).toNat = g.toNat + c by omega, ← htb]
      exact b1
    · have hjl' : j < g + c := hjl
      have hge := (hgf j hj).1 hfj
      rw [hs_of hj (by omega), show j.toNat = g.toNat + (j.toNat - g.toNat) by omega, ← htb]
      exact b2 _ (by omega)
/-- r is what Round tells. -/
def IsRound (m f : Int) (r : Int × Bool) : Prop := if 0 ≤ f ∧ f < 64 then ∃ s, IsNext m f s ∧ if s.2 = true then r = s else IsNext m 0 r else r = (0, false)
theorem round {m : Int} (hm : U m) (f : Int) : ∃ r, mask_Round.f m f = some r ∧ IsRound m f r := by
  unfold mask_Round.f IsRound
  rw [isIn]
  simp only [Option.bind_some, decide_eq_true_eq]
  by_cases h : 0 ≤ f ∧ f < 64
  · obtain ⟨s, e, hs⟩ := next hm f
    obtain ⟨t, e', ht⟩ := next hm 0
    rw [if_pos h, e, e']
    simp only [Option.bind_some]
    by_cases h2 : s.2 = true
    · rw [if_pos h2]
      exact ⟨(s.1, true), rfl, by rw [if_pos h]; exact ⟨s, hs, by rw [if_pos h2]; exact Prod.ext rfl h2.symm⟩⟩
    · rw [if_neg h2]
      exact ⟨(t.1, t.2), rfl, by rw [if_pos h]; exact ⟨s, hs, by rw [if_neg h2]; exact ht⟩⟩
  · rw [if_neg h]
    exact ⟨_, rfl, by rw [if_neg h]⟩

/-! ### The list, and the set of a list -/
end Go.Proofs.YtedolmjealgeoaaDoor.Mk
