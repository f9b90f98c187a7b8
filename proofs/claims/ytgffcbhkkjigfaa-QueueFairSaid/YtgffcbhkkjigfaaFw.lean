/- QueueFair as calls: true. Conditions: none. -/
import Derived.Test.YtgffcbhkkjigfaaFe
import Derived.Test.YtgffcbhkkjigfaaWk
import Derived.Deep.DeepCutAuto
import Derived.Deep.CutBlock
import Derived.OpenShut
namespace Go.Proofs.Ytgffcbhkkjigfaa.Ln
open Go.RowKit Go.Proofs.Ytgffcbhkkjigfaa.PBase Go.Proofs.Ytgffcbhkkjigfaa.Cat Go.Proofs.Ytgffcbhkkjigfaa.Heap Go.Proofs.YtgffcbhkkjigfaaW.PrintWords Go.Proofs.YtgffcbhkkjigfaaW.PrintLast Go.Proofs.YtgffcbhkkjigfaaW.PrintMore
set_option linter.unusedVariables false
attribute [local go_sem high] eqA32
theorem wrap_small {x y : Int} (h : x + 1 = y) (h0 : 0 ≤ x) (h1 : x ≤ 1000000) : IntKind.i64.wrap (x + 1) = y := by rw [i64_w]; unfold wrap64; omega
section
variable {Wb : World} {G B : Nat} {A : Option Addr} {c : Nat} {l : List S32} {ag rm ct : Int} {w w' : World} {k id : Int} {L : List S32}
theorem take_dis (h : FM Wb G B A c l ag rm ct w k id L) (hJ : FJ ag rm id L) (hN : NoOne L) (hct : 0 ≤ ct ∧ ct ≤ 1000) (hrm : 1 ≤ rm ∧ rm ≤ 1000) : Calls Try.prog 10 #[.pointer (some ⟨B, 0, none⟩)] w fun e w' => ∃ q, e = .returned q ∧ Aside0 (∃ ct' L', ct ≤ ct' ∧ ct' ≤ ct + 1 ∧ FJ ag rm id L' ∧ NoOne L' ∧ (L'.length : Int) < rm ∧ FM Wb G B A c l ag rm ct' w' k id L') := by
  rcases Nat.eq_zero_or_pos L.length with e | e
  · obtain rfl := List.eq_nil_of_length_eq_zero e
    refine (empty_I h.q).mono ?_
    rintro e w' ⟨rfl, hq, hf⟩
    exact ⟨_, rfl, ⟨ct, [], Int.le_refl _, by omega, hJ, hN, by simp; omega, h.call hq hf⟩⟩
  · have hl := hJ.le
    have hT := take_I h.q e (by omega) (ct + 1) (wrap_small rfl hct.1 (by omega)) _ rfl _ rfl
    refine hT.mono ?_
    rintro e2 w' ⟨rfl, hq, hf⟩
    have ht := take_len hJ.st e
    exact ⟨_, rfl, ⟨ct + 1, _, by omega, Int.le_refl _, hJ.take e, hN.take hJ.st e, by omega, h.call hq hf⟩⟩
theorem bound_calls (W : World) (bd : Nat) (ha : 1 ≤ ag ∧ ag ≤ 10) (hr : 1 ≤ rm ∧ rm ≤ 12) (hb : (bd : Int) = ag * 8 + rm) : Calls Try.prog 13 #[.int .i64 ag, .int .i64 rm] W fun e w' => e = .returned (.int .i64 bd) ∧ Below W.heap.size W w' := by
  have h : turn_Bound.f ag rm = some (bd : Int) := by
    unfold turn_Bound.f mx mn
    rw [hb]
    congr 1
    have e1 : (if ag ≤ 1000 then ag else 1000) = ag := if_pos (by omega)
    have e2 : (if rm ≤ 1000 then rm else 1000) = rm := if_pos (by omega)
    first
      | (rw [e1, e2, if_pos (by omega), if_pos (by omega)])
      | (repeat' split) <;> omega
  refine (turn_Bound.calls ag rm bd W h).mono ?_
  rintro e w' ⟨rfl, hb⟩
  first
    | exact ⟨rfl, hb⟩
    | exact ⟨rfl, hb.below⟩
    | (subst hb; exact ⟨rfl, Below.refl _ _⟩)
end
theorem FM.start {Wb : World} {B : Nat} {A : Option Addr} {c : Nat} {l : List S32} {ag rm : Int} {w : World} (hb : Below Wb.heap.size Wb w) (h : QI Wb.heap.size (fun _ => False) w B ag rm 0 []) : FM Wb w.heap.size B A c l ag rm 0 (w.alloc (.cells #[.pointer (some ⟨B, 0, none⟩), .slice A l.length c, .int .i64 0, .int .i64 1, .int .i64 rm] 29)) ((0 : Nat) : Int) 1 [] := by
  have hb1 := below_alloc (Below.refl w.heap.size w) (.cells #[.pointer (some ⟨B, 0, none⟩), .slice A l.length c, .int .i64 0, .int .i64 1, .int .i64 rm] 29)
  have hs : (w.alloc (.cells #[.pointer (some ⟨B, 0, none⟩), .slice A l.length c, .int .i64 0, .int .i64 1, .int .i64 rm] 29)).heap.size = w.heap.size + 1 := by simp
  refine ⟨(h.more (Y := fun k => k = w.heap.size) hb1 (fun k hk => ?_)).swap (Fr.refl _ _) (fun k hk => ?_), blk_new _ _, (Fr.of_b0 hb).trans (Fr.of_b0 hb1), hb.size⟩
  · subst hk; exact ⟨Nat.le_refl _, by omega⟩
  · exact ⟨.inl (.inr hk), by omega⟩
set_option maxHeartbeats 4000000 in
set_option maxRecDepth 100000 in
theorem fair_walk (W : World) (a00 a01 a1 : Int) (ag rm : Int) (A : Option Addr) (c : Nat) (l : List S32) (m7 m8 bd : Nat) (hag : wrap64 (1 + (wrap64 a00).tmod 10) = ag) (hrm : wrap64 (1 + (wrap64 a01).tmod 12) = rm) (h1 : 1 ≤ ag ∧ ag ≤ 10) (h2 : 1 ≤ rm ∧ rm ≤ 12) (hm7 : (wrap64 a1).tmod 7 = (m7 : Int)) (h7 : m7 < 7) (hm8 : (wrap64 a1).tmod 8 = (m8 : Int)) (h8 : m8 < 8) (hbd : (bd : Int) = ag * 8 + rm) (hr : Kd.C k32 W A l.length l) :
    Calls Try.prog 3 #[.agg #[.int .u16 a00, .int .u16 a01], .int .u8 a1, .slice A l.length c] W fun e w' => e = .returned (.bool true) ∧ Below W.heap.size W w' := by
  have HR := Aside0.mk hr
  have HAG := Aside0.mk (And.intro hag hrm)
  have HM := Aside0.mk (And.intro hm7 hm8)
  have HB := Aside0.mk hbd
  clear hr hag hrm hm7 hm8 hbd
  go_enter Try.func3, Try.ntmps3
  go_upto_region 1 with (fail)
  go_cut [7, 8] (fun v7 v8 wc => v7 = .int .i64 ag ∧ v8 = .int .i64 rm ∧ Below W.heap.size W wc)
  case first =>
    as_aux_lemma =>
    have hy0 : (W.alloc (.cells #[.int .u16 a00, .int .u16 a01] 23)).cell? ⟨W.heap.size, 0, none⟩ = some (.int .u16 a00) := by simp
    have hy1 : (W.alloc (.cells #[.int .u16 a00, .int .u16 a01] 23)).cell? ⟨W.heap.size, 1, none⟩ = some (.int .u16 a01) := by simp
    go_region_held3 (fun w' => w'.cell? ⟨W.heap.size, 0, none⟩ = some (.int .u16 a00) ∧ w'.cell? ⟨W.heap.size, 1, none⟩ = some (.int .u16 a01)) (go_keep) (fail)
    go_wp2_with (fail)
    go_meet
    exact ⟨congrArg (Value.int .i64) (by rw [i64_w, i64_w]; exact HAG.out.1), congrArg (Value.int .i64) (by rw [i64_w, i64_w]; exact HAG.out.2), below_drew1 (below_alloc (Below.refl _ _) _)⟩
  case rest =>
    as_aux_lemma =>
    obtain ⟨rfl, rfl, hb0⟩ := hcut
    have hk0 := True.intro
    go_upto_block 0 with (first
      | (go_at_call 8; clear hk0; refine (new_I ag rm W.heap.size _ hb0.size (by omega)).mono ?_; rintro e w1 ⟨B, rfl, hb1, h3⟩))
    have hM0 := Aside0.mk (FM.start (A := A) (c := c) (l := l) (below_step hb0 hb1) h3)
    generalize w1.alloc (.cells #[.pointer (some ⟨B, 0, none⟩), .slice A l.length c, .int .i64 0, .int .i64 1, .int .i64 rm] 29) = w2 at hM0 ⊢
    generalize w1.heap.size = G at hM0 ⊢
    clear h3 hb0 hb1
    have hHM := HM.out.1
    go_cut [11] (fun v11 wc => ∃ (k : Nat) (id ct : Int) (L : List S32), k ≤ l.length ∧ 1 ≤ id ∧ id ≤ 100 ∧ 0 ≤ ct ∧ ct ≤ 100 ∧ Aside0 (FJ ag rm id L) ∧ Aside0 (NoOne L) ∧ Aside0 (FM W G B A c l ag rm ct wc k id L))
    case first =>
      as_aux_lemma =>
      go_wp2_with (fail)
      go_loopg [11] 7 (fun gg v11 wr => ∃ (i k : Nat) (id ct : Int) (L : List S32), v11 = .int .i64 i ∧ i ≤ m7 ∧ m7 - i ≤ gg ∧ k ≤ l.length ∧ 1 ≤ id ∧ id ≤ 1 + 12 * (i : Int) ∧ 0 ≤ ct ∧ ct ≤ (i : Int) ∧ Aside0 (FJ ag rm id L) ∧ Aside0 (NoOne L) ∧ Aside0 (FM W G B A c l ag rm ct wr k id L))
      case atStart => exact ⟨0, 0, 1, 0, [], rfl, Nat.zero_le _, by omega, Nat.zero_le _, by omega, by omega, by omega, by omega, ⟨FJ.nil (by omega)⟩, ⟨fun x h => (List.not_mem_nil h).elim⟩, hM0⟩
      case round =>
        obtain ⟨i, k, id, ct, L, rfl, hi, hgg, hk, hi1, hi2, hc1, hc2, hJ, hN, hM⟩ := hrel
        clear hM0
        by_cases him : i < m7
        · have him2 : (i : Int) < (m7 : Int) := by omega
          go_wp2_with (first
            | (go_at_call 9; have hT := on_calls hM.out HR.out hk hJ.out ⟨hi1, by omega⟩ ⟨by omega, by omega⟩ ⟨hc1, by omega⟩; refine hT.mono ?_; clear hT; rintro e w3 ⟨rfl, hx⟩; obtain ⟨k2, id2, L2, hk2, hJ2, hC2, hM2⟩ := hx.out; have hle := hC2.le hJ2; have hN2 := hN.out.came hC2; clear hM)
            | (go_at_call 10; have hT := take_dis hM2 hJ2 hN2 ⟨hc1, by omega⟩ ⟨by omega, by omega⟩; refine hT.mono ?_; clear hT; rintro e w4 ⟨q, rfl, hy⟩; clear hx))
          go_roundg (m7 - (i + 1))
          case measure => omega
          case rel =>
            obtain ⟨ct3, L3, g1, g2, g3, g4, g5, g6⟩ := hy.out
            exact ⟨i + 1, k2, id2, ct3, L3, by go_num, by omega, Nat.le_refl _, hk2, by omega, by omega, by omega, by omega, ⟨g3⟩, ⟨g4⟩, ⟨g6⟩⟩
        · have him2 : ¬ (i : Int) < (m7 : Int) := by omega
          go_wp2_with (fail)
          go_meet
          exact ⟨k, id, ct, L, hk, hi1, by omega, hc1, by omega, hJ, hN, hM⟩
    case rest =>
      as_aux_lemma =>
      obtain ⟨k, id, ct, L, hk, hi1, hi2, hc1, hc2, hJ, hN, hM⟩ := hcut
      clear hM0
      go_upto_if 50 with (first
        | (go_at_call 11; refine (len_I hM.out.q _ rfl).mono ?_; rintro e w3 ⟨rfl, hq3, f3⟩; have hM3 := Aside0.mk (hM.out.call hq3 f3); clear hM hq3 f3))
      go_cut [] (fun wx => Aside0 (∃ (ct : Int) (L : List S32), 0 ≤ ct ∧ ct ≤ 101 ∧ FJ ag rm id L ∧ NoOne L ∧ (L.length : Int) < rm ∧ FM W G B A c l ag rm ct wx k id L))
      case first =>
        as_aux_lemma =>
        have hle := hJ.out.le
        by_cases hf : (L.length : Int) = rm
        · go_wp2_with (first
            | (go_at_call 10; have hT := take_dis hM3.out hJ.out hN.out ⟨hc1, by omega⟩ ⟨by omega, by omega⟩; refine hT.mono ?_; clear hT; rintro e w4 ⟨q, rfl, hy⟩))
          go_meet
          obtain ⟨ct3, L3, g1, g2, g3, g4, g5, g6⟩ := hy.out
          exact ⟨ct3, L3, by omega, by omega, g3, g4, g5, g6⟩
        · go_wp2_with (fail)
          go_meet
          exact ⟨ct, L, by omega, by omega, hJ.out, hN.out, by omega, hM3.out⟩
      case rest =>
        as_aux_lemma =>
        obtain ⟨ct2, L2, hd1, hd2, hJ2, hN2, hl2, hM2⟩ := hcut.out
        clear hcut hM3 hHM
        have hS := Aside0.mk (Race.start (cl := (m8 : Int)) hJ2 hN2 hi1 hl2 h1.1 ⟨hd1, by omega⟩ ⟨by omega, by omega⟩)
        have hl9 : L2.length ≤ 90000 := by omega
        have hM8 := HM.out.2
        replace hM2 := Aside0.mk hM2
        have hbd : bd ≤ 92 := by have := HB.out; omega
        have hj1 : Aside0 (0 ≤ (⟨1, (m8 : Int), ct2⟩ : S32).f1 ∧ (⟨1, (m8 : Int), ct2⟩ : S32).f1 < 8) := ⟨by show 0 ≤ (m8 : Int) ∧ (m8 : Int) < 8; omega⟩
        go_wp2_with (first
          | (go_at_call 12; have hT := put_I hM2.out.q 1 (m8 : Int) hl9 0 _ hS.out.1 rfl; refine hT.mono ?_; clear hT; rintro e w5 ⟨rfl, hq5, f5⟩; have hM5 := Aside0.mk (hM2.out.call hq5 f5); clear hq5 f5))
        go_loopg [12] 92 (fun gg v12 wr => ∃ (i k : Nat) (id : Int) (L : List S32), v12 = .int .i64 i ∧ i ≤ bd ∧ bd - i ≤ gg ∧ k ≤ l.length ∧ 1 ≤ id ∧ id ≤ 200 + 12 * (i : Int) ∧ Aside0 (FJ ag rm id L) ∧ Aside0 (Race ag rm ⟨1, m8, ct2⟩ ct2 (ag * m8) i L) ∧ Aside0 (FM W G B A c l ag rm (ct2 + i) wr k id L))
        case atStart => exact ⟨0, k, id, _, rfl, Nat.zero_le _, by omega, hk, hi1, by omega, ⟨hS.out.2.1⟩, ⟨hS.out.2.2⟩, ⟨by simpa using hM5.out⟩⟩
        case round =>
          obtain ⟨i, k, id, L, rfl, hi, hgg, hk, hi1, hi2, hJ, hR, hM⟩ := hrel
          clear hM5
          by_cases him : i < bd
          · have him2 : (i : Int) < (bd : Int) := by omega
            go_wp2_with (first
              | (go_at_call 13; refine (bound_calls _ bd h1 h2 HB.out).mono ?_; rintro e w3 ⟨rfl, hb3⟩; have hM3 := Aside0.mk (hM.out.step hb3); clear hM hb3)
              | (go_at_call 9; have hT := on_calls hM3.out HR.out hk hJ.out ⟨hi1, by omega⟩ ⟨by omega, by omega⟩ ⟨by omega, by omega⟩; refine hT.mono ?_; clear hT; rintro e w4 ⟨rfl, hx⟩; obtain ⟨k3, id3, L3, hk3, hJ3, hC3, hM4⟩ := hx.out; have hle := hC3.le hJ3; have hle2 := hJ3.le; have hst := Aside0.mk (hR.out.step ⟨h1.1, h1.2⟩ ⟨by omega, by omega⟩ ⟨hd1, by omega⟩ hj1.out rfl rfl hC3 hJ3); replace hJ3 := Aside0.mk hJ3; replace hM4 := Aside0.mk hM4; clear hM3 hx hC3)
              | (go_at_call 10; have hT := take_I hM4.out.q hst.out.1 (by omega) (ct2 + ((i + 1 : Nat) : Int)) (wrap_small (by omega) (by omega) (by omega)) _ rfl _ rfl; refine hT.mono ?_; clear hT; rintro e w5 ⟨rfl, hq5, f5⟩; have hM5 := Aside0.mk (hM4.out.call hq5 f5); clear hq5 f5 hM4)
              | (go_at_call 14; refine (wakes_calls _).mono ?_; rintro e w6 ⟨rfl, hb6⟩))
            · go_ret
              exact ⟨rfl, ((hM5.out.fr.trans (Fr.of_b0 (below_alloc (Below.refl _ _) _))).trans (Fr.of_b0 hb6)).below (Nat.le_refl _) (fun k h => h)⟩
            · rename_i hne
              go_roundg (bd - (i + 1))
              case measure => omega
              case rel => exact ⟨i + 1, k3, id3, _, by go_num, by omega, Nat.le_refl _, hk3, by omega, by omega, ⟨hJ3.out.take hst.out.1⟩, ⟨hst.out.2.1 (fun e => by rw [e] at hne; exact Bool.noConfusion hne)⟩, ⟨hM5.out.step (below_alloc (Below.refl _ _) _)⟩⟩
          · exact (hR.out.over h1.1 hj1.out rfl (by omega) (by have := HB.out; omega)).elim
end Go.Proofs.Ytgffcbhkkjigfaa.Ln
