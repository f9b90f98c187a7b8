/- Ring.Take as a call; Drop in one. Conditions: the ring lies in memory as told. -/
import Derived.Test.YtedolmjealgeoaaDrp
set_option linter.unusedVariables false
namespace Go.Proofs.Ytedolmjealgeoaa.Rg
open Go.RowKit Go.Maps Go.Proofs.Ytedolmjealgeoaa.PBase Go.Proofs.Ytedolmjealgeoaa.Cat Go.Proofs.YtedolmjealgeoaaW.PrintWords Go.Proofs.YtedolmjealgeoaaW.PrintLast Go.Proofs.YtedolmjealgeoaaW.PrintMore
section
variable {N : Nat} {F : Nat → Prop} {W : World} {R : Nat} {T : List S114}
theorem RI.go (h : RI N F W R T) {w' : World} (hb : Below W.heap.size W w') : RGo N F W w' R T := ⟨F, h.step hb, fun k hk => .inl hk, Fr.of_below hb⟩
theorem drop_ring (h : RI N F W R T) (id : Int) (hw : (Lit.int .i64 id).wf = true) (hlen : T.length ≤ 100000) : Calls Try.prog 9 #[.pointer (some ⟨R, 0, none⟩), .int .i64 id] W fun e w' => e = .returned (.tuple #[.int .i64 ((slotOf T id).getD 0), .bool (slotOf T id).isSome]) ∧ Aside0 (RGo N F W w' R (dropT T id)) := by
  by_cases hd : id ∈ tid T
  · obtain ⟨l, hl, hid⟩ := tid_in.1 hd
    have hsl := h.pt.sl l hl
    have es : slotOf T id = some l.f0 := by rw [← hid]; exact slotOf_mem h.pt.nd hl
    have hT := drop_yes h l hl l.f0.toNat (by omega) id hid hlen
    rw [es]
    refine hT.mono ?_
    rintro e w' ⟨rfl, hg⟩
    have e1 : ((l.f0.toNat : Nat) : Int) = l.f0 := by omega
    rw [e1]
    exact ⟨rfl, hg⟩
  · rw [slotOf_none.2 hd, drop_none hd]
    refine (drop_no h id hd hw).mono ?_
    rintro e w' ⟨rfl, hb⟩
    exact ⟨rfl, ⟨h.go hb⟩⟩
/-- Put in one. -/
def putB (T : List S114) (slot : Int) (d : S24) : Bool := decide ((0 ≤ slot ∧ slot < 64) ∧ d.f0 ∉ tid T)
theorem put_ring (h : RI N F W R T) (slot : Int) (d : S24) (hw : (Lit.int .i64 d.f0).wf = true) (hlen : T.length ≤ 100000) : Calls Try.prog 5 #[.pointer (some ⟨R, 0, none⟩), .int .i64 slot, .agg #[.int .i64 d.f0, .int .u64 d.f1]] W fun e w' => e = .returned (.bool (putB T slot d)) ∧ Aside0 (RGo N F W w' R (if putB T slot d = true then ⟨slot, d⟩ :: T else T)) := by
  by_cases hs : 0 ≤ slot ∧ slot < 64
  · obtain ⟨j, rfl⟩ : ∃ j : Nat, slot = (j : Int) := ⟨slot.toNat, by omega⟩
    by_cases hd : d.f0 ∈ tid T
    · have e1 : putB T (j : Int) d = false := by unfold putB; rw [decide_eq_false (fun e => e.2 hd)]
      rw [e1]
      refine (put_twice h j (by omega) d hd hw).mono ?_
      rintro e w' ⟨rfl, hb⟩
      exact ⟨rfl, ⟨h.go hb⟩⟩
    · have e1 : putB T (j : Int) d = true := by unfold putB; rw [decide_eq_true ⟨hs, hd⟩]
      rw [e1]
      refine (put_calls h j (by omega) d hd hw hlen).mono ?_
      rintro e w' ⟨rfl, hg⟩
      exact ⟨rfl, hg⟩
  · have e1 : putB T slot d = false := by unfold putB; rw [decide_eq_false (fun e => hs e.1)]
    rw [e1]
    refine (put_out h slot d hs).mono ?_
    rintro e w' ⟨rfl, hb⟩
    exact ⟨rfl, ⟨h.go hb⟩⟩
end
/-- What is left behind the first i of the list. -/
def lessT (T : List S114) (L : List S24) (i : Nat) : List S114 := T.filter (fun l => !((ids (L.take i)).contains l.f1.f0))
theorem lessT_zero (T : List S114) (L : List S24) : lessT T L 0 = T := by
  unfold lessT
  exact List.filter_eq_self.2 (fun l _ => by simp [ids])
theorem ids_take (L : List S24) {i : Nat} (hi : i < L.length) : ids (L.take (i + 1)) = ids (L.take i) ++ [L[i].f0] := by
  unfold ids
  rw [List.take_succ_eq_append_getElem hi, List.map_append]
  rfl
theorem lessT_step (T : List S114) (L : List S24) {i : Nat} (hi : i < L.length) : lessT T L (i + 1) = dropT (lessT T L i) L[i].f0 := by
  unfold lessT dropT
  rw [List.filter_filter, ids_take L hi]
  apply List.filter_congr
  intro l _
  rw [List.contains_eq_any_beq, List.any_append, ← List.contains_eq_any_beq]
  simp [Bool.and_comm, Bool.not_or]
theorem ids_at {T : List S114} (p : PT T) (j : Int) : (ids (psort (atS T j))).Nodup := by
  have h1 : (ids (atS T j)).Nodup := by
    have e : ids (atS T j) = (T.filter (fun l => l.f0 == j)).map (·.f1.f0) := by
      unfold ids atS
      rw [List.map_map]
      rfl
    rw [e]
    exact p.nd.sublist (List.filter_sublist.map _)
  exact ((psort_perm _).map _).nodup_iff.2 h1
theorem at_in {T : List S114} {j : Int} {d : S24} (h : d ∈ psort (atS T j)) : ⟨j, d⟩ ∈ T := by
  obtain ⟨l, hl, rfl⟩ := List.mem_map.1 ((psort_perm _).mem_iff.1 h)
  have h2 := List.mem_filter.1 hl
  have h3 : l.f0 = j := by simpa using h2.2
  have e : (⟨j, l.f1⟩ : S114) = l := by rw [← h3]
  rw [e]
  exact h2.1
theorem less_in {T : List S114} (p : PT T) (j : Int) {i : Nat} (hi : i < (psort (atS T j)).length) : (⟨j, (psort (atS T j))[i]⟩ : S114) ∈ lessT T (psort (atS T j)) i := by
  refine List.mem_filter.2 ⟨at_in (List.getElem_mem hi), ?_⟩
  have hn := ids_at p j
  have h1 : (psort (atS T j))[i].f0 ∉ ids ((psort (atS T j)).take i) := by
    have h2 := hn
    rw [← List.take_append_drop i (psort (atS T j)), show ∀ a b : List S24, ids (a ++ b) = ids a ++ ids b from fun a b => List.map_append] at h2
    have h3 := (List.nodup_append.1 h2).2.2
    intro e
    exact h3 _ e _ (List.mem_map.2 ⟨_, by rw [List.drop_eq_getElem_cons hi]; exact List.mem_cons_self, rfl⟩) rfl
  simpa using h1
theorem less_all {T : List S114} (p : PT T) (j : Int) : lessT T (psort (atS T j)) (psort (atS T j)).length = T.filter (fun l => !(l.f0 == j)) := by
  unfold lessT
  rw [List.take_length]
  apply List.filter_congr
  intro l hl
  congr 1
  rw [Bool.eq_iff_iff]
  have e1 : (ids (psort (atS T j))).contains l.f1.f0 = true ↔ l.f1.f0 ∈ ids (psort (atS T j)) := by simp
  rw [e1, psort_ids]
  constructor
  · intro h
    obtain ⟨d, hd, e⟩ := List.mem_map.1 h
    obtain ⟨a, ha, rfl⟩ := List.mem_map.1 hd
    have h2 := List.mem_filter.1 ha
    have h3 := slotOf_mem p.nd h2.1
    rw [e, slotOf_mem p.nd hl] at h3
    have h4 : a.f0 = j := by simpa using h2.2
    rw [← h4, ← Option.some.inj h3]
    simp
  · intro h
    exact List.mem_map.2 ⟨l.f1, List.mem_map.2 ⟨l, List.mem_filter.2 ⟨hl, h⟩, rfl⟩, rfl⟩
section
variable {N : Nat} {F : Nat → Prop} {W : World} {R : Nat} {T : List S114}
set_option maxHeartbeats 4000000 in
set_option maxRecDepth 100000 in
theorem take_calls (h : RI N F W R T) (j : Nat) (hj : j < 64) (hlen : T.length ≤ 100000) : Calls Try.prog 22 #[.pointer (some ⟨R, 0, none⟩), .int .i64 j] W fun e w' => ∃ v, e = .returned v ∧ Aside0 (∃ F', Kd.R k24 24 w' W.heap.size (fun k => ¬ F' k) v (psort (atS T j)) ∧ RI N F' w' R (T.filter (fun l => !(l.f0 == (j : Int)))) ∧ (∀ k, F' k → F k ∨ W.heap.size ≤ k) ∧ Fr F W w') := by
  have hle := h.len_le (j : Int)
  have H := Aside0.mk h
  clear h
  obtain ⟨L, hL⟩ : ∃ L, psort (atS T (j : Int)) = L := ⟨_, rfl⟩
  have HL := Aside0.mk hL
  rw [hL] at hle ⊢
  clear hL
  go_enter Try.func22, Try.ntmps22
  go_upto_region 2 with (go_at_call 10; have hT := list_calls H.out j hj (by omega); rw [HL.out] at hT; refine hT.mono ?_; clear hT; rintro e w1 ⟨v, rfl, hR, hb1⟩)
  have HR := Aside0.mk (Kd.R_bound hR)
  have HB := Aside0.mk hb1
  obtain ⟨A, c, rfl, hc, hC⟩ := Kd.R_reads hR
  clear hR hC hb1 hc
  go_wp2
  go_loopg [13] L.length (fun gg v13 wr => ∃ (i : Nat), v13 = .int .i64 i ∧ i ≤ L.length ∧ L.length - i ≤ gg ∧ Aside0 (∃ F', RI N F' wr R (lessT T L i) ∧ (∀ k, F' k → F k ∨ w1.heap.size ≤ k) ∧ Fr F w1 wr))
  case atStart => exact ⟨0, rfl, by omega, by omega, ⟨F, by rw [lessT_zero]; exact H.out.step HB.out, fun k hk => .inl hk, Fr.refl _ _⟩⟩
  case round =>
    obtain ⟨i, rfl, hi, hgg, hI⟩ := hrel
    by_cases hlt : i < L.length
    · have hltz : (i : Int) < (L.length : Int) := by omega
      obtain ⟨F1, g1, g2, g3⟩ := hI.out
      have g1 := Aside0.mk g1
      have g2 := Aside0.mk g2
      have g3 := Aside0.mk g3
      have hRr := Kd.R_kept HR.out (S := F) ⟨g3.out.size, fun i hi hn => g3.out.blk i hi hn⟩ (fun k hk e => by have := (H.out.lt k e).2; omega)
      obtain ⟨ad, e1, hx0, hx1⟩ := at_T24 (Kd.R_reads' hRr).2.2 (i : Int) (by omega) hltz
      subst e1
      rw [Int.toNat_natCast] at hx0 hx1
      obtain ⟨x, hx⟩ : ∃ x, L[i] = x := ⟨_, rfl⟩
      rw [rd_nat L i hlt, hx] at hx0 hx1
      have hX := Aside0.mk hx
      clear hx hRr hI
      have hin : Aside0 ((⟨(j : Int), x⟩ : S114) ∈ lessT T L i) := ⟨by
        have h1 := less_in H.out.pt (j : Int) (i := i) (by rw [HL.out]; exact hlt)
        simp only [HL.out] at h1
        rw [hX.out] at h1
        exact h1⟩
      have hll : (lessT T L i).length ≤ 100000 := Nat.le_trans (List.length_filter_le _ _) hlen
      have hbx := Aside0.mk (below_alloc (Below.refl wr.heap.size wr) (.cells #[.int .i64 x.f0, .int .u64 x.f1] 24))
      go_wp2_with (go_at_call 9; have hT := drop_yes (g1.out.step hbx.out) ⟨(j : Int), x⟩ hin.out j rfl x.f0 rfl hll; refine hT.mono ?_; clear hT; rintro e w2 ⟨rfl, hg⟩)
      go_roundg (L.length - (i + 1))
      case measure => omega
      case rel =>
        refine ⟨i + 1, by go_num, by omega, Nat.le_refl _, ⟨?_⟩⟩
        obtain ⟨F2, k1, k2, k3⟩ := hg.out
        refine ⟨F2, by rw [lessT_step T L hlt, hX.out]; exact k1, fun k hk => ?_, (g3.out.trans (Fr.of_below hbx.out)).then_ k3 (fun b hb => g2.out b hb)⟩
        rcases k2 k hk with hk | hk
        · exact g2.out k hk
        · exact .inr (Nat.le_trans g3.out.size (Nat.le_trans hbx.out.size hk))
    · obtain rfl : i = L.length := by omega
      have hltz : ¬ (L.length : Int) < (L.length : Int) := by omega
      go_wp2
      go_ret
      refine ⟨_, rfl, ⟨?_⟩⟩
      obtain ⟨F1, g1, g2, g3⟩ := hI.out
      have e2 := less_all H.out.pt (j : Int)
      rw [HL.out] at e2
      rw [e2] at g1
      refine ⟨F1, ?_, g1, fun k hk => ?_, (Fr.of_below HB.out).trans g3⟩
      · refine Kd.R_mono (Kd.R_kept HR.out (S := F) ⟨g3.size, fun i hi hn => g3.blk i hi hn⟩ (fun k hk e => by have := (H.out.lt k e).2; omega)) (fun k hk e => ?_)
        rcases g2 k e with e | e
        · have := (H.out.lt k e).2; omega
        · omega
      · rcases g2 k hk with hk | hk
        · exact .inl hk
        · exact .inr (Nat.le_trans HB.out.size hk)
end
end Go.Proofs.Ytedolmjealgeoaa.Rg
