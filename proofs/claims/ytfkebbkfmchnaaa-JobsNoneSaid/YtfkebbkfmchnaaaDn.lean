/- container/heap's down on a line, as a call. Conditions: the line lies in memory as told. -/
import Derived.Test.YtfkebbkfmchnaaaHp
namespace Go.Proofs.Ytfkebbkfmchnaaa.Ln
open Go.RowKit Go.Proofs.Ytfkebbkfmchnaaa.PBase Go.Proofs.Ytfkebbkfmchnaaa.Cat Go.Proofs.Ytfkebbkfmchnaaa.Heap Go.Proofs.YtfkebbkfmchnaaaW.PrintWords Go.Proofs.YtfkebbkfmchnaaaW.PrintLast Go.Proofs.YtfkebbkfmchnaaaW.PrintMore
theorem wrap_two {q A : Int} (h0 : 0 ≤ q) (h1 : q ≤ 2000000) (hA : 2 * q = A) : IntKind.i64.wrap (2 * q) = A := by rw [i64_w]; unfold wrap64; omega
theorem wrap_succ {q A : Int} (h0 : 0 ≤ q) (h1 : q ≤ 8000000) (hA : q + 1 = A) : IntKind.i64.wrap (q + 1) = A := by rw [i64_w]; unfold wrap64; omega
theorem down_stop {ag : Int} {f i n : Nat} {M : List S77} (h : 2 * i + 1 ≥ n) : Heap.down z77 (lt ag) f M i n = (M, i) := by
  cases f with
  | zero => rfl
  | succ f => unfold Heap.down; rw [if_pos h]
theorem down_stay {ag : Int} {f i n k : Nat} {M : List S77} (hk : kid z77 (lt ag) M i n = k) (h : lt ag (rd_T77 M (k : Int)) (rd_T77 M (i : Int)) = false) : Heap.down z77 (lt ag) f M i n = (M, i) := by
  cases f with
  | zero => rfl
  | succ f =>
    unfold Heap.down
    split
    · rfl
    · rw [hk]
      exact if_pos h
theorem down_go {ag : Int} {f i n k : Nat} {M : List S77} (hn : 2 * i + 1 < n) (hk : kid z77 (lt ag) M i n = k) (h : lt ag (rd_T77 M (k : Int)) (rd_T77 M (i : Int)) = true) : Heap.down z77 (lt ag) (f + 1) M i n = Heap.down z77 (lt ag) f (sw z77 M i k) k n := by
  rw [Heap.down, if_neg (by omega), hk, if_neg]
  have e : lt ag (Heap.g z77 M k) (Heap.g z77 M i) = true := h
  rw [e]
  decide
theorem kid_left {ag : Int} {i n : Nat} {M : List S77} (h : n ≤ 2 * i + 2) : kid z77 (lt ag) M i n = 2 * i + 1 := by
  unfold kid; rw [if_neg (by omega)]
theorem kid_left2 {ag : Int} {i n : Nat} {M : List S77} (h : lt ag (rd_T77 M ((2 * i + 2 : Nat) : Int)) (rd_T77 M ((2 * i + 1 : Nat) : Int)) = false) : kid z77 (lt ag) M i n = 2 * i + 1 := by
  unfold kid
  rw [if_neg]
  rintro ⟨_, e⟩
  have e' : lt ag (Heap.g z77 M (2 * i + 2)) (Heap.g z77 M (2 * i + 1)) = false := h
  rw [e'] at e
  cases e
theorem kid_right {ag : Int} {i n : Nat} {M : List S77} (hn : 2 * i + 2 < n) (h : lt ag (rd_T77 M ((2 * i + 2 : Nat) : Int)) (rd_T77 M ((2 * i + 1 : Nat) : Int)) = true) : kid z77 (lt ag) M i n = 2 * i + 2 := by
  unfold kid
  exact if_pos ⟨hn, h⟩
set_option maxHeartbeats 4000000 in
set_option maxRecDepth 100000 in
theorem down_calls {W : World} {base B : Nat} {ag rm ct : Int} {v : Value} {L : List S77} (h : QS W base B ag v rm ct L) (j n : Nat) (hj : j < n) (hn : n ≤ L.length) (hl : L.length ≤ 1000000) :
    Calls Try.prog 74 #[.iface 115 (.pointer (some ⟨B, 0, none⟩)), .int .i64 j, .int .i64 n] W fun e w' => e = .returned (.bool (decide (j < (Heap.down z77 (lt ag) n L j n).2))) ∧ QS w' base B ag v rm ct (Heap.down z77 (lt ag) n L j n).1 ∧ Fr (QF B v) W w' := by
  go_enter Try.func74, Try.ntmps74
  go_wp2
  go_loopg [7] n (fun gg v7 wr => ∃ (f i : Nat) (M : List S77), n - i ≤ f ∧ n - i ≤ gg ∧ v7 = .int .i64 i ∧ j ≤ i ∧ i < n ∧ M.length = L.length ∧ Aside0 (Heap.down z77 (lt ag) n L j n = Heap.down z77 (lt ag) f M i n) ∧ QS wr base B ag v rm ct M ∧ Fr (QF B v) W wr)
  case atStart => exact ⟨n, j, L, Nat.sub_le _ _, Nat.sub_le _ _, rfl, Nat.le_refl _, hj, rfl, ⟨rfl⟩, h, Fr.refl _ _⟩
  case round =>
    obtain ⟨f, i, M, hif, hig, rfl, hji, hin, hML, HU, hQ, hF⟩ := hrel
    have hm1 := fun W => mLess W (some ⟨B, 0, none⟩)
    have hm2 := fun W => mSwap W (some ⟨B, 0, none⟩)
    obtain ⟨A, hA⟩ : ∃ A : Int, 2 * (i : Int) = A := ⟨_, rfl⟩
    obtain ⟨J1, hJ1⟩ : ∃ A : Int, ((2 * i + 1 : Nat) : Int) = A := ⟨_, rfl⟩
    obtain ⟨J2, hJ2⟩ : ∃ A : Int, ((2 * i + 2 : Nat) : Int) = A := ⟨_, rfl⟩
    have e1 := wrap_two (q := i) (A := A) (by omega) (by omega) hA
    have e2 := wrap_succ (q := A) (A := J1) (by omega) (by omega) (by omega)
    have e3 := wrap_succ (q := J1) (A := J2) (by omega) (by omega) (by omega)
    have HA := Aside0.mk hA
    have H1 := Aside0.mk hJ1
    have H2 := Aside0.mk hJ2
    by_cases hc : 2 * i + 1 ≥ n
    · have hc' : (n : Int) ≤ J1 := by omega
      clear hA hJ1 hJ2 e3
      go_wp2_with (fail)
      go_ret
      rw [HU.out, down_stop hc]
      exact ⟨by first | (congr 2; done) | (congr 2; exact decide_eq_decide.2 (by omega)), hQ, hF⟩
    · have hc' : ¬ (n : Int) ≤ J1 := by omega
      have hc0 : ¬ J1 < 0 := by omega
      obtain ⟨f, rfl⟩ : ∃ f', f = f' + 1 := ⟨f - 1, by omega⟩
      by_cases hd : 2 * i + 2 < n
      · have hd' : J2 < (n : Int) := by omega
        have HL := Aside0.mk (less_calls hQ (2 * i + 2) (2 * i + 1) (by omega) (by omega) _ (lt_is ag _ _))
        rw [H2.out, H1.out] at HL
        cases hlt : lt ag (rd_T77 M J2) (rd_T77 M J1) with
        | false =>
          rw [hlt] at HL
          have hk : kid z77 (lt ag) M i n = 2 * i + 1 := kid_left2 (by rw [H1.out, H2.out]; exact hlt)
          cases hlt2 : lt ag (rd_T77 M J1) (rd_T77 M i) with
          | false =>
            clear hA hJ1 hJ2
            go_wp2_with (first
              | (go_at_call 120; refine HL.out.mono ?_; rintro e w7 ⟨rfl, hb7⟩; have HL2 := Aside0.mk (less_calls (hQ.step hb7) (2 * i + 1) i (by omega) (by omega) _ (lt_is ag _ _)); rw [H1.out, hlt2] at HL2; clear HL)
              | (go_at_call 120; refine HL2.out.mono ?_; rintro e w8 ⟨rfl, hb8⟩))
            go_ret
            rw [HU.out, down_stay hk (by rw [H1.out]; exact hlt2)]
            exact ⟨by first | (congr 2; done) | (congr 2; exact decide_eq_decide.2 (by omega)), ((hQ.step hb7).step hb8), Fr.then_ (Fr.then_ hF (Fr.of_below (F := fun _ => False) hb7) (fun _ h => h.elim)) (Fr.of_below (F := fun _ => False) hb8) (fun _ h => h.elim)⟩
          | true =>
            clear hA hJ1 hJ2
            go_wp2_with (first
              | (go_at_call 120; refine HL.out.mono ?_; rintro e w7 ⟨rfl, hb7⟩; have HL2 := Aside0.mk (less_calls (hQ.step hb7) (2 * i + 1) i (by omega) (by omega) _ (lt_is ag _ _)); rw [H1.out, hlt2] at HL2; clear HL)
              | (go_at_call 120; refine HL2.out.mono ?_; rintro e w8 ⟨rfl, hb8⟩)
              | (go_at_call 123; refine ((by have := swap_calls ((hQ.step hb7).step hb8) i (2 * i + 1) (by omega) (by omega); rw [H1.out] at this; exact this) : Calls _ _ _ _ _).mono ?_; rintro e w9 ⟨rfl, hQ9, hF9⟩))
            go_roundg (n - (2 * i + 1))
            case measure => omega
            case rel => exact ⟨f, 2 * i + 1, sw z77 M i (2 * i + 1), by omega, Nat.le_refl _, by rw [H1.out], by omega, by omega, by rw [sw_len]; exact hML, ⟨by rw [HU.out, down_go (by omega) hk (by rw [H1.out]; exact hlt2)]⟩, hQ9, Fr.then_ (Fr.then_ (Fr.then_ hF (Fr.of_below (F := fun _ => False) hb7) (fun _ h => h.elim)) (Fr.of_below (F := fun _ => False) hb8) (fun _ h => h.elim)) hF9 (fun _ h => .inl h)⟩
        | true =>
          rw [hlt] at HL
          have hk : kid z77 (lt ag) M i n = 2 * i + 2 := kid_right hd (by rw [H1.out, H2.out]; exact hlt)
          cases hlt2 : lt ag (rd_T77 M J2) (rd_T77 M i) with
          | false =>
            clear hA hJ1 hJ2
            go_wp2_with (first
              | (go_at_call 120; refine HL.out.mono ?_; rintro e w7 ⟨rfl, hb7⟩; have HL2 := Aside0.mk (less_calls (hQ.step hb7) (2 * i + 2) i (by omega) (by omega) _ (lt_is ag _ _)); rw [H2.out, hlt2] at HL2; clear HL)
              | (go_at_call 120; refine HL2.out.mono ?_; rintro e w8 ⟨rfl, hb8⟩))
            go_ret
            rw [HU.out, down_stay hk (by rw [H2.out]; exact hlt2)]
            exact ⟨by first | (congr 2; done) | (congr 2; exact decide_eq_decide.2 (by omega)), ((hQ.step hb7).step hb8), Fr.then_ (Fr.then_ hF (Fr.of_below (F := fun _ => False) hb7) (fun _ h => h.elim)) (Fr.of_below (F := fun _ => False) hb8) (fun _ h => h.elim)⟩
          | true =>
            clear hA hJ1 hJ2
            go_wp2_with (first
              | (go_at_call 120; refine HL.out.mono ?_; rintro e w7 ⟨rfl, hb7⟩; have HL2 := Aside0.mk (less_calls (hQ.step hb7) (2 * i + 2) i (by omega) (by omega) _ (lt_is ag _ _)); rw [H2.out, hlt2] at HL2; clear HL)
              | (go_at_call 120; refine HL2.out.mono ?_; rintro e w8 ⟨rfl, hb8⟩)
              | (go_at_call 123; refine ((by have := swap_calls ((hQ.step hb7).step hb8) i (2 * i + 2) (by omega) (by omega); rw [H2.out] at this; exact this) : Calls _ _ _ _ _).mono ?_; rintro e w9 ⟨rfl, hQ9, hF9⟩))
            go_roundg (n - (2 * i + 2))
            case measure => omega
            case rel => exact ⟨f, 2 * i + 2, sw z77 M i (2 * i + 2), by omega, Nat.le_refl _, by rw [H2.out], by omega, by omega, by rw [sw_len]; exact hML, ⟨by rw [HU.out, down_go (by omega) hk (by rw [H2.out]; exact hlt2)]⟩, hQ9, Fr.then_ (Fr.then_ (Fr.then_ hF (Fr.of_below (F := fun _ => False) hb7) (fun _ h => h.elim)) (Fr.of_below (F := fun _ => False) hb8) (fun _ h => h.elim)) hF9 (fun _ h => .inl h)⟩
      · have hd' : ¬ J2 < (n : Int) := by omega
        have hk : kid z77 (lt ag) M i n = 2 * i + 1 := kid_left (by omega)
        cases hlt2 : lt ag (rd_T77 M J1) (rd_T77 M i) with
        | false =>
          have HL2 := Aside0.mk (less_calls hQ (2 * i + 1) i (by omega) (by omega) _ (lt_is ag _ _))
          rw [H1.out, hlt2] at HL2
          clear hA hJ1 hJ2
          go_wp2_with (go_at_call 120; refine HL2.out.mono ?_; rintro e w8 ⟨rfl, hb8⟩)
          go_ret
          rw [HU.out, down_stay hk (by rw [H1.out]; exact hlt2)]
          exact ⟨by first | (congr 2; done) | (congr 2; exact decide_eq_decide.2 (by omega)), (hQ.step hb8), Fr.then_ hF (Fr.of_below (F := fun _ => False) hb8) (fun _ h => h.elim)⟩
        | true =>
          have HL2 := Aside0.mk (less_calls hQ (2 * i + 1) i (by omega) (by omega) _ (lt_is ag _ _))
          rw [H1.out, hlt2] at HL2
          clear hA hJ1 hJ2
          go_wp2_with (first
            | (go_at_call 120; refine HL2.out.mono ?_; rintro e w8 ⟨rfl, hb8⟩)
            | (go_at_call 123; refine ((by have := swap_calls (hQ.step hb8) i (2 * i + 1) (by omega) (by omega); rw [H1.out] at this; exact this) : Calls _ _ _ _ _).mono ?_; rintro e w9 ⟨rfl, hQ9, hF9⟩))
          go_roundg (n - (2 * i + 1))
          case measure => omega
          case rel => exact ⟨f, 2 * i + 1, sw z77 M i (2 * i + 1), by omega, Nat.le_refl _, by rw [H1.out], by omega, by omega, by rw [sw_len]; exact hML, ⟨by rw [HU.out, down_go (by omega) hk (by rw [H1.out]; exact hlt2)]⟩, hQ9, Fr.then_ (Fr.then_ hF (Fr.of_below (F := fun _ => False) hb8) (fun _ h => h.elim)) hF9 (fun _ h => .inl h)⟩
end Go.Proofs.Ytfkebbkfmchnaaa.Ln
