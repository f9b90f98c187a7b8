/- container/heap's up, down, Push, Remove on a line, as calls. Conditions: the line lies in memory as told; its order is told by Less. -/
import Derived.Test.YtfkebbkfmchnaaaPush
namespace Go.Proofs.Ytfkebbkfmchnaaa.Ln
open Go.RowKit Go.Proofs.Ytfkebbkfmchnaaa.PBase Go.Proofs.Ytfkebbkfmchnaaa.Cat Go.Proofs.Ytfkebbkfmchnaaa.Heap Go.Proofs.YtfkebbkfmchnaaaW.PrintWords Go.Proofs.YtfkebbkfmchnaaaW.PrintLast Go.Proofs.YtfkebbkfmchnaaaW.PrintMore
/-- The order, as a Bool. -/
def lt (ag : Int) (a b : S77) : Bool := (turn_Less.f ag a.f0 a.f1 a.f2 b.f0 b.f1 b.f2).getD false
theorem lt_is (ag : Int) (a b : S77) : turn_Less.f ag a.f0 a.f1 a.f2 b.f0 b.f1 b.f2 = some (lt ag a b) := by
  have h1 : ∀ x y z, ∃ r, turn_in.f x y z = some r := fun x y z => by unfold turn_in.f; split <;> exact ⟨_, rfl⟩
  have h2 : ∀ x y z, ∃ r, turn_Good.f x y z = some r := fun x y z => by
    unfold turn_Good.f
    obtain ⟨r, hr⟩ := h1 y 0 7
    obtain ⟨r2, hr2⟩ := h1 z 0 1099511627776
    rw [hr, Option.bind_some, hr2]
    cases r <;> exact ⟨_, rfl⟩
  have h3 : ∀ a x y z, ∃ r, turn_Turn.f a x y z = some r := fun a x y z => by
    unfold turn_Turn.f
    obtain ⟨r, hr⟩ := h2 x y z
    obtain ⟨r2, hr2⟩ := h1 a 1 1000
    rw [hr, Option.bind_some, hr2]
    cases r <;> cases r2 <;> exact ⟨_, rfl⟩
  have h4 : ∃ r, turn_Less.f ag a.f0 a.f1 a.f2 b.f0 b.f1 b.f2 = some r := by
    unfold turn_Less.f
    obtain ⟨r, hr⟩ := h3 ag a.f0 a.f1 a.f2
    obtain ⟨r2, hr2⟩ := h3 ag b.f0 b.f1 b.f2
    rw [hr, Option.bind_some, hr2, Option.bind_some]
    split
    · exact ⟨_, rfl⟩
    · split <;> exact ⟨_, rfl⟩
  obtain ⟨r, hr⟩ := h4
  unfold lt
  rw [hr]
  rfl
theorem par_int {i p : Nat} {q P : Int} (hq : ((i + 1 : Nat) : Int) = q) (hp : (i + 1 - 1) / 2 = p) (hP : (p : Int) = P) : (q - 1).tdiv 2 = P := by
  subst hq; subst hP; subst hp
  rw [show ((i + 1 : Nat) : Int) - 1 = (i : Int) by omega, Nat.add_sub_cancel, Int.tdiv_eq_ediv_of_nonneg (by omega)]
  rfl
theorem par_ne {i p : Nat} {q P : Int} (hq : ((i + 1 : Nat) : Int) = q) (hp : (i + 1 - 1) / 2 = p) (hP : (p : Int) = P) : (P == q) = false := by
  rw [beq_eq_false_iff_ne]; omega
theorem wrap_pred {q : Int} (h0 : 0 ≤ q) (h1 : q ≤ 2000000) : IntKind.i64.wrap (q - 1) = q - 1 := by rw [i64_w]; unfold wrap64; omega
theorem wrap_id {q : Int} (h0 : 0 ≤ q) (h1 : q ≤ 2000000) : IntKind.i64.wrap q = q := by rw [i64_w]; unfold wrap64; omega
theorem up_zero (ag : Int) (f : Nat) (M : List S77) : Heap.up z77 (lt ag) f M 0 = M := by
  cases f with
  | zero => rfl
  | succ f => unfold Heap.up; rw [if_pos (.inl rfl)]
theorem up_stop {ag : Int} {f i p : Nat} {M : List S77} (hp : (i + 1 - 1) / 2 = p) (h : lt ag (rd_T77 M ((i + 1 : Nat) : Int)) (rd_T77 M (p : Int)) = false) : Heap.up z77 (lt ag) f M (i + 1) = M := by
  cases f with
  | zero => rfl
  | succ f =>
    unfold Heap.up
    rw [hp]
    exact if_pos (.inr h)
theorem up_go {ag : Int} {f i p : Nat} {M : List S77} (hp : (i + 1 - 1) / 2 = p) (h : lt ag (rd_T77 M ((i + 1 : Nat) : Int)) (rd_T77 M (p : Int)) = true) : Heap.up z77 (lt ag) (f + 1) M (i + 1) = Heap.up z77 (lt ag) f (sw z77 M p (i + 1)) p := by
  rw [Heap.up, if_neg, hp]
  rw [hp, not_or]
  refine ⟨by omega, ?_⟩
  have e : lt ag (Heap.g z77 M (i + 1)) (Heap.g z77 M p) = true := h
  rw [e]
  decide
theorem mLess (W : World) (p : Option Addr) : (method 276 115 (.pointer p) "Less").run Try.prog W = .ok (120, .pointer p) W := by kernel_rfl
theorem mSwap (W : World) (p : Option Addr) : (method 276 115 (.pointer p) "Swap").run Try.prog W = .ok (123, .pointer p) W := by kernel_rfl
theorem mLen (W : World) (p : Option Addr) : (method 276 115 (.pointer p) "Len").run Try.prog W = .ok (72, .pointer p) W := by kernel_rfl
theorem mPush (W : World) (p : Option Addr) : (method 276 115 (.pointer p) "Push").run Try.prog W = .ok (122, .pointer p) W := by kernel_rfl
theorem mPop (W : World) (p : Option Addr) : (method 276 115 (.pointer p) "Pop").run Try.prog W = .ok (121, .pointer p) W := by kernel_rfl
set_option maxHeartbeats 4000000 in
set_option maxRecDepth 100000 in
theorem up_calls {W : World} {base B : Nat} {ag rm ct : Int} {v : Value} {L : List S77} (h : QS W base B ag v rm ct L) (j : Nat) (hj : j < L.length) (hl : L.length ≤ 1000000) :
    Calls Try.prog 73 #[.iface 115 (.pointer (some ⟨B, 0, none⟩)), .int .i64 j] W fun e w' => e = .returned (.tuple #[]) ∧ QS w' base B ag v rm ct (Heap.up z77 (lt ag) j L j) ∧ Fr (QF B v) W w' := by
  go_enter Try.func73, Try.ntmps73
  go_wp2
  go_loopg [1] j (fun gg v1 wr => ∃ (f i : Nat) (M : List S77), i ≤ f ∧ i ≤ gg ∧ v1 = .int .i64 i ∧ i < M.length ∧ M.length = L.length ∧ Aside0 (Heap.up z77 (lt ag) j L j = Heap.up z77 (lt ag) f M i) ∧ QS wr base B ag v rm ct M ∧ Fr (QF B v) W wr)
  case atStart => exact ⟨j, j, L, Nat.le_refl _, Nat.le_refl _, rfl, hj, rfl, ⟨rfl⟩, h, Fr.refl _ _⟩
  case round =>
    obtain ⟨f, i, M, hif, hig, rfl, hiM, hML, HU, hQ, hF⟩ := hrel
    have hm1 := fun W => mLess W (some ⟨B, 0, none⟩)
    have hm2 := fun W => mSwap W (some ⟨B, 0, none⟩)
    cases i with
    | zero =>
      go_wp2_with (fail)
      go_end0
      exact ⟨rfl, by rw [HU.out, up_zero]; exact hQ, hF⟩
    | succ i =>
      obtain ⟨f, rfl⟩ : ∃ f', f = f' + 1 := ⟨f - 1, by omega⟩
      obtain ⟨q, hq⟩ : ∃ q : Int, ((i + 1 : Nat) : Int) = q := ⟨_, rfl⟩
      obtain ⟨p, hp⟩ : ∃ p : Nat, (i + 1 - 1) / 2 = p := ⟨_, rfl⟩
      obtain ⟨P, hP⟩ : ∃ P : Int, (p : Int) = P := ⟨_, rfl⟩
      have e1 := par_int hq hp hP
      have e2 := par_ne hq hp hP
      have e4 := wrap_id (q := P) (by omega) (by omega)
      have e3 := wrap_pred (q := q) (by omega) (by omega)
      have HQQ := Aside0.mk hq
      have HPP := Aside0.mk hP
      rw [hq]
      clear hq hP
      have hpl : p < M.length := by omega
      have hless := less_calls hQ (i + 1) p hiM hpl (lt ag (rd_T77 M ((i + 1 : Nat) : Int)) (rd_T77 M p)) (lt_is ag _ _)
      rw [HQQ.out, HPP.out] at hless
      have HL := Aside0.mk hless
      clear hless
      cases hlt : lt ag (rd_T77 M q) (rd_T77 M P) with
      | false =>
        rw [hlt] at HL
        go_wp2_with (go_at_call 120; refine HL.out.mono ?_; rintro e w7 ⟨rfl, hb7⟩)
        go_end0
        exact ⟨rfl, by rw [HU.out, up_stop hp (by rw [HQQ.out, HPP.out]; exact hlt)]; exact hQ.step hb7, Fr.then_ hF (Fr.of_below (F := fun _ => False) hb7) (fun _ h => h.elim)⟩
      | true =>
        rw [hlt] at HL
        go_wp2_with (first
          | (go_at_call 120; refine HL.out.mono ?_; rintro e w7 ⟨rfl, hb7⟩)
          | (go_at_call 123; refine ((by have := swap_calls (hQ.step hb7) p (i + 1) hpl hiM; rw [HQQ.out, HPP.out] at this; exact this) : Calls _ _ _ _ _).mono ?_; rintro e w8 ⟨rfl, hQ8, hF8⟩))
        go_roundg p
        case measure => omega
        case rel => exact ⟨f, p, sw z77 M p (i + 1), by omega, Nat.le_refl _, by rw [HPP.out], by rw [sw_len]; exact hpl, by rw [sw_len]; exact hML, ⟨by rw [HU.out, up_go hp (by rw [HQQ.out, HPP.out]; exact hlt)]⟩, hQ8, Fr.then_ (Fr.then_ hF (Fr.of_below (F := fun _ => False) hb7) (fun _ h => h.elim)) hF8 (fun _ h => .inl h)⟩
end Go.Proofs.Ytfkebbkfmchnaaa.Ln
