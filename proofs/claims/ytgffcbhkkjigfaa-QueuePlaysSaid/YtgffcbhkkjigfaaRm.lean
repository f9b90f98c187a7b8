/- QueueRoom as calls: true. Conditions: none. -/
import Derived.Test.YtgffcbhkkjigfaaSt
import Derived.Test.YtgffcbhkkjigfaaWk
import Derived.OpenShut
namespace Go.Proofs.Ytgffcbhkkjigfaa.Ln
open Go.RowKit Go.Proofs.Ytgffcbhkkjigfaa.PBase Go.Proofs.Ytgffcbhkkjigfaa.Cat Go.Proofs.Ytgffcbhkkjigfaa.Heap Go.Proofs.YtgffcbhkkjigfaaW.PrintWords Go.Proofs.YtgffcbhkkjigfaaW.PrintLast Go.Proofs.YtgffcbhkkjigfaaW.PrintMore
set_option linter.unusedVariables false
/-- Blocks that a list's row may lie in, besides X. -/
abbrev XL (X : Nat → Prop) (b e : Nat) (k : Nat) : Prop := X k ∨ (b ≤ k ∧ k < e)
theorem list_X {N : Nat} {X : Nat → Prop} {W w' : World} {B : Nat} {ag rm ct : Int} {L M : List S32} {v : Value} (h : QI N X W B ag rm ct L) (hR : Kd.R k32 32 w' W.heap.size (fun _ => True) v M) (hb : Below W.heap.size W w') :
    QI N (XL X W.heap.size w'.heap.size) w' B ag rm ct L ∧ Kd.R k32 32 w' W.heap.size (XL X W.heap.size w'.heap.size) v M :=
  ⟨h.more hb (fun k hk => hk), Kd.R_mono (Kd.R_bound hR) (fun k hk => .inr ⟨hk.2.1, hk.2.2.1⟩)⟩
theorem R_fr {N b : Nat} {X : Nat → Prop} {W w' : World} {v : Value} {M : List S32} (hR : Kd.R k32 32 W b X v M) (hf : Fr (KX N X) W w') : Kd.R k32 32 w' b X v M :=
  Kd.R_kept hR (S := KX N X) ⟨hf.size, fun i hi hn => hf.blk i hi hn⟩ (fun _ hx hk => hk.2 hx)
theorem waits_calls (M : List S32) (A0 A1 : Option Addr) (c0 c1 : Nat) (w : World) (hr0 : Kd.C k32 w A0 M.length M) (hc0 : M.length ≤ c0) (hr1 : Kd.C k32 w A1 M.length M) (hc1 : M.length ≤ c1) (h : M.length ≤ 1000000) :
    Calls Try.prog 24 #[.slice A0 M.length c0, .slice A1 M.length c1] w fun e w' => e = .returned (.bool true) ∧ Below w.heap.size w w' := by
  have := remontoirkeep_Waits.calls (M.length + 1) A0 c0 M A1 c1 M true w hr0 hc0 hr1 hc1 (waits_same M h)
  refine this.mono ?_
  rintro e w' ⟨rfl, hb⟩
  exact ⟨rfl, hb.below⟩
/-- Two lists of one queue, one after the other. -/
theorem waits_two {ag : Int} {L M M2 : List S32} {b b2 : Nat} {X X2 : Nat → Prop} {v v2 : Value} {w : World} (hp : M.Perm L) (hs : Sorted ag M) (hp2 : M2.Perm L) (hs2 : Sorted ag M2) (nd : (ids L).Nodup) (hR : Kd.R k32 32 w b X v M) (hR2 : Kd.R k32 32 w b2 X2 v2 M2) (hl : L.length ≤ 1000000) :
    Calls Try.prog 24 #[v2, v] w fun e w' => e = .returned (.bool true) ∧ Below w.heap.size w w' := by
  have e : M2 = M := sorted_eq (hp2.trans hp.symm) ((ids_perm hp2).nodup_iff.2 nd) hs2 hs
  subst e
  obtain ⟨A, c, rfl, h1, h2⟩ := Kd.R_reads hR
  obtain ⟨A2, c2, rfl, k1, k2⟩ := Kd.R_reads hR2
  exact waits_calls M2 A2 A c2 c w k2 k1 h2 h1 (by rw [hp.length_eq]; exact hl)
theorem ids_push {ag : Int} {L : List S32} (h : St ag L) {x : S32} (hx : x.f0 ∉ ids L) (z : Int) : z ∈ ids (pushL ag L x) ↔ z = x.f0 ∨ z ∈ ids L := by
  rw [(ids_perm (h.push hx).2).mem_iff]
  simp [ids]
/-- A queue with the numbers 0 to n - 1. -/
structure Rw (n : Nat) (L : List S32) : Prop where
  st : St 3 L
  len : L.length = n
  has : ∀ z, z ∈ ids L ↔ 0 ≤ z ∧ z < n
theorem Rw.nil : Rw 0 [] := ⟨St.nil 3, rfl, fun z => ⟨fun h => (List.not_mem_nil h).elim, fun h => by omega⟩⟩
theorem Rw.put {i n : Nat} {L : List S32} (h : Rw i L) (hi : i < n) : putE L (n : Int) (i : Int) ((i : Int).tmod 8) = 0 ∧ Rw (i + 1) (putL 3 (n : Int) 0 L (i : Int) ((i : Int).tmod 8)) := by
  have hni : (i : Int) ∉ ids L := by rw [h.has]; omega
  have hm : 0 ≤ (i : Int).tmod 8 ∧ (i : Int).tmod 8 < 8 := by rw [Int.tmod_eq_emod_of_nonneg (by omega)]; omega
  have h1 : putE L (n : Int) (i : Int) ((i : Int).tmod 8) = 0 := put_ok hm hni (by rw [h.len]; omega)
  refine ⟨h1, ?_⟩
  rw [putL_ok h1]
  have hp := h.st.push (x := ⟨i, (i : Int).tmod 8, 0⟩) hni
  refine ⟨hp.1, by rw [hp.2.length_eq, List.length_cons, h.len], fun z => ?_⟩
  rw [ids_push h.st hni, h.has]
  show z = (i : Int) ∨ _ ↔ _
  omega
/-- What the law asks of such a queue. -/
structure Rp (n k : Nat) (L L1 L2 L3 : List S32) (P : Int) : Prop where
  d0 : decide (0 ≤ place L (n : Int)) = false
  e0 : dropL 3 L (n : Int) = L
  d1 : decide (0 ≤ place L (k : Int)) = true
  e1 : dropL 3 L (k : Int) = L1
  l1 : (L1.length : Int) = (n : Int) - 1
  d2 : decide (0 ≤ place L1 (k : Int)) = false
  e2 : dropL 3 L1 (k : Int) = L1
  p1 : putE L1 (n : Int) (n : Int) 0 = 0
  q1 : putL 3 (n : Int) 0 L1 (n : Int) 0 = L2
  l2 : L2.length = n
  p2 : putE L2 (n : Int) P 0 = 10
  q2 : putL 3 (n : Int) 0 L2 P 0 = L2
  t : removeL 3 L2 0 = L3
  l3 : (L3.length : Int) = (n : Int) - 1
  p3 : putE L3 (n : Int) P 0 = 0
theorem Rw.plain {n k : Nat} {L : List S32} {P : Int} (h : Rw n L) (h0 : 0 < n) (hk : k < n) (hP : P = (n : Int) + 1) : ∃ L1 L2 L3, Rp n k L L1 L2 L3 P := by
  subst hP
  have hnn : (n : Int) ∉ ids L := by rw [h.has]; omega
  have hkk : (k : Int) ∈ ids L := by rw [h.has]; omega
  obtain ⟨x, hx, hxk, st1, hp1⟩ := h.st.drop hkk
  have hi1 : ∀ z, z ∈ ids (dropL 3 L (k : Int)) → (0 ≤ z ∧ z < n) ∧ z ≠ k := by
    intro z hz
    have hnd := (ids_perm hp1).nodup_iff.1 h.st.nd
    have hnd2 : x.f0 ∉ ids (dropL 3 L (k : Int)) ∧ _ := List.nodup_cons.1 hnd
    refine ⟨(h.has z).1 ((ids_perm hp1).mem_iff.2 (List.mem_cons_of_mem _ hz)), fun e => ?_⟩
    rw [e] at hz
    exact hnd2.1 (by rw [hxk]; exact hz)
  have hl1 : (dropL 3 L (k : Int)).length + 1 = n := by
    have := hp1.length_eq
    rw [List.length_cons, h.len] at this
    omega
  have hk1 : (k : Int) ∉ ids (dropL 3 L (k : Int)) := fun e => (hi1 _ e).2 rfl
  have hn1 : (n : Int) ∉ ids (dropL 3 L (k : Int)) := fun e => by have := (hi1 _ e).1; omega
  have hp : putE (dropL 3 L (k : Int)) (n : Int) (n : Int) 0 = 0 := put_ok (by omega) hn1 (by omega)
  have hpush := st1.push (x := ⟨(n : Int), 0, 0⟩) hn1
  have hl2 : (pushL 3 (dropL 3 L (k : Int)) ⟨(n : Int), 0, 0⟩).length = n := by rw [hpush.2.length_eq, List.length_cons]; omega
  have hP2 : (n : Int) + 1 ∉ ids (pushL 3 (dropL 3 L (k : Int)) ⟨(n : Int), 0, 0⟩) := by
    rw [ids_push st1 hn1]
    rintro (e | e)
    · have e2 : (n : Int) + 1 = n := e
      omega
    · have := (hi1 _ e).1; omega
  have hp2 : putE (pushL 3 (dropL 3 L (k : Int)) ⟨(n : Int), 0, 0⟩) (n : Int) ((n : Int) + 1) 0 = 10 := put_full (by omega) hP2 (by omega)
  have ht := hpush.1.take (by omega)
  have hl3 : (removeL 3 (pushL 3 (dropL 3 L (k : Int)) ⟨(n : Int), 0, 0⟩) 0).length + 1 = n := by
    have := ht.2.1.length_eq
    rw [List.length_cons, hl2] at this
    omega
  refine ⟨_, _, _, ⟨?_, drop_no hnn, ?_, rfl, by omega, ?_, drop_no hk1, hp, putL_ok hp, hl2, hp2, putL_no (by rw [hp2]; decide), rfl, by omega, put_ok (by omega) (fun e => hP2 ((ids_perm ht.2.1).mem_iff.2 (List.mem_cons_of_mem _ e))) (by omega)⟩⟩
  · rw [decide_eq_false_iff_not, place_in]; exact hnn
  · rw [decide_eq_true_eq, place_in]; exact hkk
  · rw [decide_eq_false_iff_not, place_in]; exact hk1
theorem Fr.b0 {N : Nat} {X : Nat → Prop} {W W1 : World} (h : Fr (KX N X) W W1) : Fr (fun k => N ≤ k) W W1 := h.weak (fun _ h => h.1)
theorem Fr.of_b0 {N : Nat} {W w' : World} (hb : Below W.heap.size W w') : Fr (fun k => N ≤ k) W w' := Fr.of_below hb
theorem wi {i n : Nat} (hi : i < n) (hn : n < 60) : wrap64 ((i : Int) + 1) = ((i + 1 : Nat) : Int) := by unfold wrap64; omega
set_option maxHeartbeats 4000000 in
set_option maxRecDepth 100000 in
theorem room_may (W : World) (a0 a1 a2 : Int) (n k : Nat) (hn : (wrap64 a0).tmod 60 = (n : Int)) (hn1 : n < 60) (h0 : 0 < n) (hk : (wrap64 a2).tmod (n : Int) = (k : Int)) (hk1 : k < n) (hm1 : 0 ≤ a1) (hm2 : a1 < 8) :
    Calls Try.prog 6 #[.int .u8 a0, .int .i64 a1, .int .u8 a2] W fun e w' => e = .returned (.bool true) ∧ Below W.heap.size W w' := by
  have hn0 : ¬ (n : Int) = 0 := by clear hn hk; omega
  have hk0 := True.intro
  go_enter Try.func6, Try.ntmps6
  go_wp2_with (first
    | (go_at_call 8; clear hk0; refine (new_I 3 n W.heap.size _ (Nat.le_refl _) (by clear hn hk; omega)).mono ?_; rintro e w1 ⟨B, rfl, hb1, h1⟩))
  go_loopg [9] n (fun gg v9 w' => ∃ (i : Nat) (L : List S32), i ≤ n ∧ n - i ≤ gg ∧ v9 = .int .i64 i ∧ Rw i L ∧ QI W.heap.size (fun _ => False) w' B 3 n 0 L ∧ Fr (KX W.heap.size (fun _ => False)) W w')
  case atStart => exact ⟨0, [], by clear hn hk; omega, by clear hn hk; omega, rfl, Rw.nil, h1, Fr.of_b hb1⟩
  case round =>
    obtain ⟨i, L, hin, hgg, rfl, hRw, hq, hf⟩ := hrel
    by_cases hi : i < n
    · have hput := Aside0.mk (hRw.put hi)
      have hi2 : (i : Int) < (n : Int) := by clear hn hk; omega
      have hlen : L.length ≤ 90000 := by rw [hRw.len]; clear hn hk; omega
      have hLg := Aside0.mk hRw
      clear hRw
      have hwi := wi hi hn1
      go_wp2_with (go_at_call 12; refine (put_I hq _ _ hlen 0 _ hput.out.1 rfl).mono ?_; rintro e w2 ⟨rfl, hq2, f2⟩; clear hq)
      go_roundg (n - (i + 1))
      case measure => clear hn hk; omega
      case rel => exact ⟨i + 1, _, by clear hn hk; omega, by clear hn hk; omega, rfl, hput.out.2, hq2, hf.trans f2⟩
    · have hi2 : ¬ (i : Int) < (n : Int) := by clear hn hk; omega
      obtain rfl : i = n := by clear hn hk; omega
      obtain ⟨L1, L2, L3, hpl⟩ := hRw.plain h0 hk1 rfl
      have hpl := Aside0.mk hpl
      have hlen : L.length ≤ 90000 := by rw [hRw.len]; clear hn hk; omega
      have hl : (L.length : Int) = (i : Int) := by rw [hRw.len]
      have hl1 : (L1.length : Int) = (i : Int) - 1 := hpl.out.l1
      have hp0 : putE L (i : Int) (i : Int) a1 = 10 := put_full ⟨hm1, hm2⟩ (by rw [hRw.has]; clear hn hk; omega) (by rw [hRw.len]; clear hn hk; omega)
      have hpl0 : putL 3 (i : Int) 0 L (i : Int) a1 = L := putL_no (by rw [hp0]; decide)
      have hp1 : putE L (i : Int) (k : Int) a1 = 8 := put_twice ⟨hm1, hm2⟩ (by rw [hRw.has]; clear hn hk; omega)
      have hpl1 : putL 3 (i : Int) 0 L (k : Int) a1 = L := putL_no (by rw [hp1]; decide)
      have hpp1 := Aside0.mk (And.intro hp1 hpl1)
      clear hp1 hpl1
      have hLa : Aside0 (L1.length ≤ 90000 ∧ L2.length ≤ 90000 ∧ L3.length ≤ 90000) := ⟨by have h1 := hpl.out.l1; have h2 := hpl.out.l2; have h3 := hpl.out.l3; clear hn hk; omega⟩
      have hLb : Aside0 (0 < L2.length) := ⟨by have h2 := hpl.out.l2; clear hn hk; omega⟩
      have hpp0 := Aside0.mk (And.intro hp0 hpl0)
      have hLL := Aside0.mk (And.intro hl hl1)
      have hRw := Aside0.mk hRw
      have hnd := Aside0.mk hRw.out.st.nd
      clear hp0 hpl0 hl hl1
      go_wp2_with (first
        | (go_at_call 17; refine (list_I hq hlen).mono ?_; rintro e w2 ⟨v2, M, rfl, hp2, hs2, hR2, hb2⟩; have hx := list_X hq hR2 hb2; have f2 := hf.trans (Fr.of_b hb2); have hM := Aside0.mk (And.intro hp2 hs2); have hR := Aside0.mk hx.2; obtain ⟨hq2, _⟩ := hx; clear hq hR2 hp2 hs2 hf)
        | (go_at_call 12; refine (put_I hq2 _ _ hlen _ _ hpp0.out.1 hpp0.out.2).mono ?_; rintro e w3 ⟨rfl, hq3, f3⟩; have hR3 := Aside0.mk (R_fr hR.out f3); clear hq2 hR)
        | (go_at_call 22; refine (drop_I hq3 _ hlen false _ hpl.out.d0 hpl.out.e0).mono ?_; rintro e w4 ⟨rfl, hq4, f4⟩; have hR4 := Aside0.mk (R_fr hR3.out f4); clear hq3 hR3)
        | (go_at_call 17; refine (list_I hq4 hlen).mono ?_; rintro e w5 ⟨v5, M5, rfl, hp5, hs5, hR5, hb5⟩; have hq5 := hq4.step hb5; have hM5 := Aside0.mk (And.intro hp5 hs5); have hR6 := Aside0.mk (And.intro (R_fr (N := W.heap.size) hR4.out (Fr.of_b hb5)) hR5); clear hq4 hR4 hR5 hp5 hs5)
        | (go_at_call 24; refine (waits_two hM.out.1 hM.out.2 hM5.out.1 hM5.out.2 hnd.out hR6.out.1 hR6.out.2 (Nat.le_trans hlen (by decide))).mono ?_; rintro e w6 ⟨rfl, hb6⟩; have hq6 := hq5.step hb6; clear hq5)
        | (go_at_call 11; refine (len_I hq6 _ hLL.out.1).mono ?_; rintro e w7 ⟨rfl, hq7, f7⟩; clear hq6)
        | (go_at_call 15; refine (count_I hq7).mono ?_; rintro e w8 ⟨rfl, hq8, f8⟩; clear hq7)
        | (go_at_call 12; refine (put_I hq8 _ _ hlen _ _ hpp1.out.1 hpp1.out.2).mono ?_; rintro e w9 ⟨rfl, hq9, f9⟩; clear hq8)
        | (go_at_call 22; refine (drop_I hq9 _ hlen true L1 hpl.out.d1 hpl.out.e1).mono ?_; rintro e w10 ⟨rfl, hq10, f10⟩; clear hq9)
        | (go_at_call 22; refine (drop_I hq10 _ hLa.out.1 false L1 hpl.out.d2 hpl.out.e2).mono ?_; rintro e w11 ⟨rfl, hq11, f11⟩; clear hq10)
        | (go_at_call 11; refine (len_I hq11 _ hLL.out.2).mono ?_; rintro e w12 ⟨rfl, hq12, f12⟩; clear hq11)
        | (go_at_call 12; refine (put_I hq12 _ _ hLa.out.1 0 L2 hpl.out.p1 hpl.out.q1).mono ?_; rintro e w13 ⟨rfl, hq13, f13⟩; clear hq12)
        | (go_at_call 12; refine (put_I hq13 _ _ hLa.out.2.1 10 L2 hpl.out.p2 hpl.out.q2).mono ?_; rintro e w14 ⟨rfl, hq14, f14⟩; clear hq13)
        | (go_at_call 10; refine (take_I hq14 hLb.out hLa.out.2.1 1 (by kernel_rfl) _ rfl L3 hpl.out.t).mono ?_; rintro e w15 ⟨rfl, hq15, f15⟩; clear hq14)
        | (go_at_call 12; refine (put_I (hq15.step (below_alloc (Below.refl _ _) _)) _ _ hLa.out.2.2 0 _ hpl.out.p3 rfl).mono ?_; rintro e w16 ⟨rfl, hq16, f16⟩; clear hq15)
        | (go_at_call 15; refine (count_I hq16).mono ?_; rintro e w17 ⟨rfl, hq17, f17⟩; clear hq16)
        | (go_at_call 14; refine (wakes_calls _).mono ?_; rintro e w18 ⟨rfl, h18⟩))
      go_ret
      exact ⟨rfl, ((((((((((((((((((f2.b0.trans f3.b0).trans f4.b0).trans (Fr.of_b0 hb5)).trans (Fr.of_b0 hb6)).trans f7.b0).trans f8.b0).trans f9.b0).trans f10.b0).trans f11.b0).trans f12.b0).trans f13.b0).trans f14.b0).trans f15.b0).trans (Fr.of_b0 (below_alloc (Below.refl _ _) _))).trans f16.b0).trans f17.b0).trans (Fr.of_b0 h18))).below (Nat.le_refl _) (fun k h => h)⟩
set_option maxHeartbeats 4000000 in
set_option maxRecDepth 100000 in
theorem room_low (W : World) (a0 a1 a2 : Int) (n k : Nat) (hn : (wrap64 a0).tmod 60 = (n : Int)) (hn1 : n < 60) (h0 : 0 < n) (hk : (wrap64 a2).tmod (n : Int) = (k : Int)) (hk1 : k < n) (hm1 : ¬ 0 ≤ a1) :
    Calls Try.prog 6 #[.int .u8 a0, .int .i64 a1, .int .u8 a2] W fun e w' => e = .returned (.bool true) ∧ Below W.heap.size W w' := by
  have hn0 : ¬ (n : Int) = 0 := by clear hn hk; omega
  have hk0 := True.intro
  go_enter Try.func6, Try.ntmps6
  go_wp2_with (first
    | (go_at_call 8; clear hk0; refine (new_I 3 n W.heap.size _ (Nat.le_refl _) (by clear hn hk; omega)).mono ?_; rintro e w1 ⟨B, rfl, hb1, h1⟩))
  go_loopg [9] n (fun gg v9 w' => ∃ (i : Nat) (L : List S32), i ≤ n ∧ n - i ≤ gg ∧ v9 = .int .i64 i ∧ Rw i L ∧ QI W.heap.size (fun _ => False) w' B 3 n 0 L ∧ Fr (KX W.heap.size (fun _ => False)) W w')
  case atStart => exact ⟨0, [], by clear hn hk; omega, by clear hn hk; omega, rfl, Rw.nil, h1, Fr.of_b hb1⟩
  case round =>
    obtain ⟨i, L, hin, hgg, rfl, hRw, hq, hf⟩ := hrel
    by_cases hi : i < n
    · have hput := Aside0.mk (hRw.put hi)
      have hi2 : (i : Int) < (n : Int) := by clear hn hk; omega
      have hlen : L.length ≤ 90000 := by rw [hRw.len]; clear hn hk; omega
      have hLg := Aside0.mk hRw
      clear hRw
      have hwi := wi hi hn1
      go_wp2_with (go_at_call 12; refine (put_I hq _ _ hlen 0 _ hput.out.1 rfl).mono ?_; rintro e w2 ⟨rfl, hq2, f2⟩; clear hq)
      go_roundg (n - (i + 1))
      case measure => clear hn hk; omega
      case rel => exact ⟨i + 1, _, by clear hn hk; omega, by clear hn hk; omega, rfl, hput.out.2, hq2, hf.trans f2⟩
    · have hi2 : ¬ (i : Int) < (n : Int) := by clear hn hk; omega
      obtain rfl : i = n := by clear hn hk; omega
      obtain ⟨L1, L2, L3, hpl⟩ := hRw.plain h0 hk1 rfl
      have hpl := Aside0.mk hpl
      have hlen : L.length ≤ 90000 := by rw [hRw.len]; clear hn hk; omega
      have hl : (L.length : Int) = (i : Int) := by rw [hRw.len]
      have hl1 : (L1.length : Int) = (i : Int) - 1 := hpl.out.l1
      have hp0 : putE L (i : Int) (i : Int) a1 = 1 := put_arg (by clear hn hk; omega)
      have hpl0 : putL 3 (i : Int) 0 L (i : Int) a1 = L := putL_no (by rw [hp0]; decide)
      have hLa : Aside0 (L1.length ≤ 90000 ∧ L2.length ≤ 90000 ∧ L3.length ≤ 90000) := ⟨by have h1 := hpl.out.l1; have h2 := hpl.out.l2; have h3 := hpl.out.l3; clear hn hk; omega⟩
      have hLb : Aside0 (0 < L2.length) := ⟨by have h2 := hpl.out.l2; clear hn hk; omega⟩
      have hpp0 := Aside0.mk (And.intro hp0 hpl0)
      have hLL := Aside0.mk (And.intro hl hl1)
      have hRw := Aside0.mk hRw
      have hnd := Aside0.mk hRw.out.st.nd
      clear hp0 hpl0 hl hl1
      go_wp2_with (first
        | (go_at_call 17; refine (list_I hq hlen).mono ?_; rintro e w2 ⟨v2, M, rfl, hp2, hs2, hR2, hb2⟩; have hx := list_X hq hR2 hb2; have f2 := hf.trans (Fr.of_b hb2); have hM := Aside0.mk (And.intro hp2 hs2); have hR := Aside0.mk hx.2; obtain ⟨hq2, _⟩ := hx; clear hq hR2 hp2 hs2 hf)
        | (go_at_call 12; refine (put_I hq2 _ _ hlen _ _ hpp0.out.1 hpp0.out.2).mono ?_; rintro e w3 ⟨rfl, hq3, f3⟩; have hR3 := Aside0.mk (R_fr hR.out f3); clear hq2 hR)
        | (go_at_call 22; refine (drop_I hq3 _ hlen false _ hpl.out.d0 hpl.out.e0).mono ?_; rintro e w4 ⟨rfl, hq4, f4⟩; have hR4 := Aside0.mk (R_fr hR3.out f4); clear hq3 hR3)
        | (go_at_call 17; refine (list_I hq4 hlen).mono ?_; rintro e w5 ⟨v5, M5, rfl, hp5, hs5, hR5, hb5⟩; have hq5 := hq4.step hb5; have hM5 := Aside0.mk (And.intro hp5 hs5); have hR6 := Aside0.mk (And.intro (R_fr (N := W.heap.size) hR4.out (Fr.of_b hb5)) hR5); clear hq4 hR4 hR5 hp5 hs5)
        | (go_at_call 24; refine (waits_two hM.out.1 hM.out.2 hM5.out.1 hM5.out.2 hnd.out hR6.out.1 hR6.out.2 (Nat.le_trans hlen (by decide))).mono ?_; rintro e w6 ⟨rfl, hb6⟩; have hq6 := hq5.step hb6; clear hq5)
        | (go_at_call 11; refine (len_I hq6 _ hLL.out.1).mono ?_; rintro e w7 ⟨rfl, hq7, f7⟩; clear hq6)
        | (go_at_call 15; refine (count_I hq7).mono ?_; rintro e w8 ⟨rfl, hq8, f8⟩; clear hq7)
        | (go_at_call 22; refine (drop_I hq8 _ hlen true L1 hpl.out.d1 hpl.out.e1).mono ?_; rintro e w10 ⟨rfl, hq10, f10⟩; clear hq8)
        | (go_at_call 22; refine (drop_I hq10 _ hLa.out.1 false L1 hpl.out.d2 hpl.out.e2).mono ?_; rintro e w11 ⟨rfl, hq11, f11⟩; clear hq10)
        | (go_at_call 11; refine (len_I hq11 _ hLL.out.2).mono ?_; rintro e w12 ⟨rfl, hq12, f12⟩; clear hq11)
        | (go_at_call 12; refine (put_I hq12 _ _ hLa.out.1 0 L2 hpl.out.p1 hpl.out.q1).mono ?_; rintro e w13 ⟨rfl, hq13, f13⟩; clear hq12)
        | (go_at_call 12; refine (put_I hq13 _ _ hLa.out.2.1 10 L2 hpl.out.p2 hpl.out.q2).mono ?_; rintro e w14 ⟨rfl, hq14, f14⟩; clear hq13)
        | (go_at_call 10; refine (take_I hq14 hLb.out hLa.out.2.1 1 (by kernel_rfl) _ rfl L3 hpl.out.t).mono ?_; rintro e w15 ⟨rfl, hq15, f15⟩; clear hq14)
        | (go_at_call 12; refine (put_I (hq15.step (below_alloc (Below.refl _ _) _)) _ _ hLa.out.2.2 0 _ hpl.out.p3 rfl).mono ?_; rintro e w16 ⟨rfl, hq16, f16⟩; clear hq15)
        | (go_at_call 15; refine (count_I hq16).mono ?_; rintro e w17 ⟨rfl, hq17, f17⟩; clear hq16)
        | (go_at_call 14; refine (wakes_calls _).mono ?_; rintro e w18 ⟨rfl, h18⟩))
      go_ret
      exact ⟨rfl, (((((((((((((((((f2.b0.trans f3.b0).trans f4.b0).trans (Fr.of_b0 hb5)).trans (Fr.of_b0 hb6)).trans f7.b0).trans f8.b0).trans f10.b0).trans f11.b0).trans f12.b0).trans f13.b0).trans f14.b0).trans f15.b0).trans (Fr.of_b0 (below_alloc (Below.refl _ _) _))).trans f16.b0).trans f17.b0).trans (Fr.of_b0 h18))).below (Nat.le_refl _) (fun k h => h)⟩
set_option maxHeartbeats 4000000 in
set_option maxRecDepth 100000 in
theorem room_high (W : World) (a0 a1 a2 : Int) (n k : Nat) (hn : (wrap64 a0).tmod 60 = (n : Int)) (hn1 : n < 60) (h0 : 0 < n) (hk : (wrap64 a2).tmod (n : Int) = (k : Int)) (hk1 : k < n) (hm1 : 0 ≤ a1) (hm2 : ¬ a1 < 8) :
    Calls Try.prog 6 #[.int .u8 a0, .int .i64 a1, .int .u8 a2] W fun e w' => e = .returned (.bool true) ∧ Below W.heap.size W w' := by
  have hn0 : ¬ (n : Int) = 0 := by clear hn hk; omega
  have hk0 := True.intro
  go_enter Try.func6, Try.ntmps6
  go_wp2_with (first
    | (go_at_call 8; clear hk0; refine (new_I 3 n W.heap.size _ (Nat.le_refl _) (by clear hn hk; omega)).mono ?_; rintro e w1 ⟨B, rfl, hb1, h1⟩))
  go_loopg [9] n (fun gg v9 w' => ∃ (i : Nat) (L : List S32), i ≤ n ∧ n - i ≤ gg ∧ v9 = .int .i64 i ∧ Rw i L ∧ QI W.heap.size (fun _ => False) w' B 3 n 0 L ∧ Fr (KX W.heap.size (fun _ => False)) W w')
  case atStart => exact ⟨0, [], by clear hn hk; omega, by clear hn hk; omega, rfl, Rw.nil, h1, Fr.of_b hb1⟩
  case round =>
    obtain ⟨i, L, hin, hgg, rfl, hRw, hq, hf⟩ := hrel
    by_cases hi : i < n
    · have hput := Aside0.mk (hRw.put hi)
      have hi2 : (i : Int) < (n : Int) := by clear hn hk; omega
      have hlen : L.length ≤ 90000 := by rw [hRw.len]; clear hn hk; omega
      have hLg := Aside0.mk hRw
      clear hRw
      have hwi := wi hi hn1
      go_wp2_with (go_at_call 12; refine (put_I hq _ _ hlen 0 _ hput.out.1 rfl).mono ?_; rintro e w2 ⟨rfl, hq2, f2⟩; clear hq)
      go_roundg (n - (i + 1))
      case measure => clear hn hk; omega
      case rel => exact ⟨i + 1, _, by clear hn hk; omega, by clear hn hk; omega, rfl, hput.out.2, hq2, hf.trans f2⟩
    · have hi2 : ¬ (i : Int) < (n : Int) := by clear hn hk; omega
      obtain rfl : i = n := by clear hn hk; omega
      obtain ⟨L1, L2, L3, hpl⟩ := hRw.plain h0 hk1 rfl
      have hpl := Aside0.mk hpl
      have hlen : L.length ≤ 90000 := by rw [hRw.len]; clear hn hk; omega
      have hl : (L.length : Int) = (i : Int) := by rw [hRw.len]
      have hl1 : (L1.length : Int) = (i : Int) - 1 := hpl.out.l1
      have hp0 : putE L (i : Int) (i : Int) a1 = 1 := put_arg (by clear hn hk; omega)
      have hpl0 : putL 3 (i : Int) 0 L (i : Int) a1 = L := putL_no (by rw [hp0]; decide)
      have hLa : Aside0 (L1.length ≤ 90000 ∧ L2.length ≤ 90000 ∧ L3.length ≤ 90000) := ⟨by have h1 := hpl.out.l1; have h2 := hpl.out.l2; have h3 := hpl.out.l3; clear hn hk; omega⟩
      have hLb : Aside0 (0 < L2.length) := ⟨by have h2 := hpl.out.l2; clear hn hk; omega⟩
      have hpp0 := Aside0.mk (And.intro hp0 hpl0)
      have hLL := Aside0.mk (And.intro hl hl1)
      have hRw := Aside0.mk hRw
      have hnd := Aside0.mk hRw.out.st.nd
      clear hp0 hpl0 hl hl1
      go_wp2_with (first
        | (go_at_call 17; refine (list_I hq hlen).mono ?_; rintro e w2 ⟨v2, M, rfl, hp2, hs2, hR2, hb2⟩; have hx := list_X hq hR2 hb2; have f2 := hf.trans (Fr.of_b hb2); have hM := Aside0.mk (And.intro hp2 hs2); have hR := Aside0.mk hx.2; obtain ⟨hq2, _⟩ := hx; clear hq hR2 hp2 hs2 hf)
        | (go_at_call 12; refine (put_I hq2 _ _ hlen _ _ hpp0.out.1 hpp0.out.2).mono ?_; rintro e w3 ⟨rfl, hq3, f3⟩; have hR3 := Aside0.mk (R_fr hR.out f3); clear hq2 hR)
        | (go_at_call 22; refine (drop_I hq3 _ hlen false _ hpl.out.d0 hpl.out.e0).mono ?_; rintro e w4 ⟨rfl, hq4, f4⟩; have hR4 := Aside0.mk (R_fr hR3.out f4); clear hq3 hR3)
        | (go_at_call 17; refine (list_I hq4 hlen).mono ?_; rintro e w5 ⟨v5, M5, rfl, hp5, hs5, hR5, hb5⟩; have hq5 := hq4.step hb5; have hM5 := Aside0.mk (And.intro hp5 hs5); have hR6 := Aside0.mk (And.intro (R_fr (N := W.heap.size) hR4.out (Fr.of_b hb5)) hR5); clear hq4 hR4 hR5 hp5 hs5)
        | (go_at_call 24; refine (waits_two hM.out.1 hM.out.2 hM5.out.1 hM5.out.2 hnd.out hR6.out.1 hR6.out.2 (Nat.le_trans hlen (by decide))).mono ?_; rintro e w6 ⟨rfl, hb6⟩; have hq6 := hq5.step hb6; clear hq5)
        | (go_at_call 11; refine (len_I hq6 _ hLL.out.1).mono ?_; rintro e w7 ⟨rfl, hq7, f7⟩; clear hq6)
        | (go_at_call 15; refine (count_I hq7).mono ?_; rintro e w8 ⟨rfl, hq8, f8⟩; clear hq7)
        | (go_at_call 22; refine (drop_I hq8 _ hlen true L1 hpl.out.d1 hpl.out.e1).mono ?_; rintro e w10 ⟨rfl, hq10, f10⟩; clear hq8)
        | (go_at_call 22; refine (drop_I hq10 _ hLa.out.1 false L1 hpl.out.d2 hpl.out.e2).mono ?_; rintro e w11 ⟨rfl, hq11, f11⟩; clear hq10)
        | (go_at_call 11; refine (len_I hq11 _ hLL.out.2).mono ?_; rintro e w12 ⟨rfl, hq12, f12⟩; clear hq11)
        | (go_at_call 12; refine (put_I hq12 _ _ hLa.out.1 0 L2 hpl.out.p1 hpl.out.q1).mono ?_; rintro e w13 ⟨rfl, hq13, f13⟩; clear hq12)
        | (go_at_call 12; refine (put_I hq13 _ _ hLa.out.2.1 10 L2 hpl.out.p2 hpl.out.q2).mono ?_; rintro e w14 ⟨rfl, hq14, f14⟩; clear hq13)
        | (go_at_call 10; refine (take_I hq14 hLb.out hLa.out.2.1 1 (by kernel_rfl) _ rfl L3 hpl.out.t).mono ?_; rintro e w15 ⟨rfl, hq15, f15⟩; clear hq14)
        | (go_at_call 12; refine (put_I (hq15.step (below_alloc (Below.refl _ _) _)) _ _ hLa.out.2.2 0 _ hpl.out.p3 rfl).mono ?_; rintro e w16 ⟨rfl, hq16, f16⟩; clear hq15)
        | (go_at_call 15; refine (count_I hq16).mono ?_; rintro e w17 ⟨rfl, hq17, f17⟩; clear hq16)
        | (go_at_call 14; refine (wakes_calls _).mono ?_; rintro e w18 ⟨rfl, h18⟩))
      go_ret
      exact ⟨rfl, (((((((((((((((((f2.b0.trans f3.b0).trans f4.b0).trans (Fr.of_b0 hb5)).trans (Fr.of_b0 hb6)).trans f7.b0).trans f8.b0).trans f10.b0).trans f11.b0).trans f12.b0).trans f13.b0).trans f14.b0).trans f15.b0).trans (Fr.of_b0 (below_alloc (Below.refl _ _) _))).trans f16.b0).trans f17.b0).trans (Fr.of_b0 h18))).below (Nat.le_refl _) (fun k h => h)⟩
set_option maxHeartbeats 4000000 in
set_option maxRecDepth 100000 in
theorem zero_may (W : World) (a0 a1 a2 : Int) (hn : (wrap64 a0).tmod 60 = 0) (hm1 : 0 ≤ a1) (hm2 : a1 < 8) :
    Calls Try.prog 6 #[.int .u8 a0, .int .i64 a1, .int .u8 a2] W fun e w' => e = .returned (.bool true) ∧ Below W.heap.size W w' := by
  have hk0 := True.intro
  go_enter Try.func6, Try.ntmps6
  go_wp2_with (first
    | (go_at_call 8; clear hk0; refine (new_I 3 0 W.heap.size _ (Nat.le_refl _) (by decide)).mono ?_; rintro e w1 ⟨B, rfl, hb1, h1⟩))
  go_loopg [9] 1 (fun _ v9 w' => v9 = .int .i64 0 ∧ w' = w1)
  case atStart => exact ⟨rfl, rfl⟩
  case round =>
    obtain ⟨rfl, rfl⟩ := hrel
    have hp0 : putE [] 0 0 a1 = 10 := put_full ⟨hm1, hm2⟩ (fun h => (List.not_mem_nil h).elim) (by decide)
    have hpl0 : putL 3 0 0 [] 0 a1 = [] := putL_no (by rw [hp0]; decide)
    have hpp0 := Aside0.mk (And.intro hp0 hpl0)
    clear hp0 hpl0
    go_wp2_with (first
      | (go_at_call 17; refine (list_I h1 (by decide)).mono ?_; rintro e w2 ⟨v2, M, rfl, hp2, hs2, hR2, hb2⟩; have hx := list_X h1 hR2 hb2; have f2 := (Fr.of_b0 (N := W.heap.size) hb1).trans (Fr.of_b0 hb2); have hM := Aside0.mk (And.intro hp2 hs2); have hR := Aside0.mk hx.2; obtain ⟨hq2, _⟩ := hx; clear h1 hR2 hp2 hs2)
      | (go_at_call 12; refine (put_I hq2 _ _ (by decide) _ _ hpp0.out.1 hpp0.out.2).mono ?_; rintro e w3 ⟨rfl, hq3, f3⟩; have hR3 := Aside0.mk (R_fr hR.out f3); clear hq2 hR)
      | (go_at_call 22; refine (drop_I hq3 _ (by decide) false [] rfl rfl).mono ?_; rintro e w4 ⟨rfl, hq4, f4⟩; have hR4 := Aside0.mk (R_fr hR3.out f4); clear hq3 hR3)
      | (go_at_call 17; refine (list_I hq4 (by decide)).mono ?_; rintro e w5 ⟨v5, M5, rfl, hp5, hs5, hR5, hb5⟩; have hq5 := hq4.step hb5; have hM5 := Aside0.mk (And.intro hp5 hs5); have hR6 := Aside0.mk (And.intro (R_fr (N := W.heap.size) hR4.out (Fr.of_b hb5)) hR5); clear hq4 hR4 hR5 hp5 hs5)
      | (go_at_call 24; refine (waits_two hM.out.1 hM.out.2 hM5.out.1 hM5.out.2 List.nodup_nil hR6.out.1 hR6.out.2 (by decide)).mono ?_; rintro e w6 ⟨rfl, hb6⟩; have hq6 := hq5.step hb6; clear hq5)
      | (go_at_call 11; refine (len_I hq6 0 rfl).mono ?_; rintro e w7 ⟨rfl, hq7, f7⟩; clear hq6)
      | (go_at_call 15; refine (count_I hq7).mono ?_; rintro e w8 ⟨rfl, hq8, f8⟩; clear hq7)
      | (go_at_call 14; refine (wakes_calls _).mono ?_; rintro e w18 ⟨rfl, h18⟩))
    go_ret
    exact ⟨rfl, ((((((((f2.trans f3.b0).trans f4.b0).trans (Fr.of_b0 hb5)).trans (Fr.of_b0 hb6)).trans f7.b0).trans f8.b0).trans (Fr.of_b0 h18))).below (Nat.le_refl _) (fun k h => h)⟩
set_option maxHeartbeats 4000000 in
set_option maxRecDepth 100000 in
theorem zero_low (W : World) (a0 a1 a2 : Int) (hn : (wrap64 a0).tmod 60 = 0) (hm1 : ¬ 0 ≤ a1) :
    Calls Try.prog 6 #[.int .u8 a0, .int .i64 a1, .int .u8 a2] W fun e w' => e = .returned (.bool true) ∧ Below W.heap.size W w' := by
  have hk0 := True.intro
  go_enter Try.func6, Try.ntmps6
  go_wp2_with (first
    | (go_at_call 8; clear hk0; refine (new_I 3 0 W.heap.size _ (Nat.le_refl _) (by decide)).mono ?_; rintro e w1 ⟨B, rfl, hb1, h1⟩))
  go_loopg [9] 1 (fun _ v9 w' => v9 = .int .i64 0 ∧ w' = w1)
  case atStart => exact ⟨rfl, rfl⟩
  case round =>
    obtain ⟨rfl, rfl⟩ := hrel
    have hp0 : putE [] 0 0 a1 = 1 := put_arg (fun h => by omega)
    have hpl0 : putL 3 0 0 [] 0 a1 = [] := putL_no (by rw [hp0]; decide)
    have hpp0 := Aside0.mk (And.intro hp0 hpl0)
    clear hp0 hpl0
    go_wp2_with (first
      | (go_at_call 17; refine (list_I h1 (by decide)).mono ?_; rintro e w2 ⟨v2, M, rfl, hp2, hs2, hR2, hb2⟩; have hx := list_X h1 hR2 hb2; have f2 := (Fr.of_b0 (N := W.heap.size) hb1).trans (Fr.of_b0 hb2); have hM := Aside0.mk (And.intro hp2 hs2); have hR := Aside0.mk hx.2; obtain ⟨hq2, _⟩ := hx; clear h1 hR2 hp2 hs2)
      | (go_at_call 12; refine (put_I hq2 _ _ (by decide) _ _ hpp0.out.1 hpp0.out.2).mono ?_; rintro e w3 ⟨rfl, hq3, f3⟩; have hR3 := Aside0.mk (R_fr hR.out f3); clear hq2 hR)
      | (go_at_call 22; refine (drop_I hq3 _ (by decide) false [] rfl rfl).mono ?_; rintro e w4 ⟨rfl, hq4, f4⟩; have hR4 := Aside0.mk (R_fr hR3.out f4); clear hq3 hR3)
      | (go_at_call 17; refine (list_I hq4 (by decide)).mono ?_; rintro e w5 ⟨v5, M5, rfl, hp5, hs5, hR5, hb5⟩; have hq5 := hq4.step hb5; have hM5 := Aside0.mk (And.intro hp5 hs5); have hR6 := Aside0.mk (And.intro (R_fr (N := W.heap.size) hR4.out (Fr.of_b hb5)) hR5); clear hq4 hR4 hR5 hp5 hs5)
      | (go_at_call 24; refine (waits_two hM.out.1 hM.out.2 hM5.out.1 hM5.out.2 List.nodup_nil hR6.out.1 hR6.out.2 (by decide)).mono ?_; rintro e w6 ⟨rfl, hb6⟩; have hq6 := hq5.step hb6; clear hq5)
      | (go_at_call 11; refine (len_I hq6 0 rfl).mono ?_; rintro e w7 ⟨rfl, hq7, f7⟩; clear hq6)
      | (go_at_call 15; refine (count_I hq7).mono ?_; rintro e w8 ⟨rfl, hq8, f8⟩; clear hq7)
      | (go_at_call 14; refine (wakes_calls _).mono ?_; rintro e w18 ⟨rfl, h18⟩))
    go_ret
    exact ⟨rfl, ((((((((f2.trans f3.b0).trans f4.b0).trans (Fr.of_b0 hb5)).trans (Fr.of_b0 hb6)).trans f7.b0).trans f8.b0).trans (Fr.of_b0 h18))).below (Nat.le_refl _) (fun k h => h)⟩
set_option maxHeartbeats 4000000 in
set_option maxRecDepth 100000 in
theorem zero_high (W : World) (a0 a1 a2 : Int) (hn : (wrap64 a0).tmod 60 = 0) (hm1 : 0 ≤ a1) (hm2 : ¬ a1 < 8) :
    Calls Try.prog 6 #[.int .u8 a0, .int .i64 a1, .int .u8 a2] W fun e w' => e = .returned (.bool true) ∧ Below W.heap.size W w' := by
  have hk0 := True.intro
  go_enter Try.func6, Try.ntmps6
  go_wp2_with (first
    | (go_at_call 8; clear hk0; refine (new_I 3 0 W.heap.size _ (Nat.le_refl _) (by decide)).mono ?_; rintro e w1 ⟨B, rfl, hb1, h1⟩))
  go_loopg [9] 1 (fun _ v9 w' => v9 = .int .i64 0 ∧ w' = w1)
  case atStart => exact ⟨rfl, rfl⟩
  case round =>
    obtain ⟨rfl, rfl⟩ := hrel
    have hp0 : putE [] 0 0 a1 = 1 := put_arg (fun h => by omega)
    have hpl0 : putL 3 0 0 [] 0 a1 = [] := putL_no (by rw [hp0]; decide)
    have hpp0 := Aside0.mk (And.intro hp0 hpl0)
    clear hp0 hpl0
    go_wp2_with (first
      | (go_at_call 17; refine (list_I h1 (by decide)).mono ?_; rintro e w2 ⟨v2, M, rfl, hp2, hs2, hR2, hb2⟩; have hx := list_X h1 hR2 hb2; have f2 := (Fr.of_b0 (N := W.heap.size) hb1).trans (Fr.of_b0 hb2); have hM := Aside0.mk (And.intro hp2 hs2); have hR := Aside0.mk hx.2; obtain ⟨hq2, _⟩ := hx; clear h1 hR2 hp2 hs2)
      | (go_at_call 12; refine (put_I hq2 _ _ (by decide) _ _ hpp0.out.1 hpp0.out.2).mono ?_; rintro e w3 ⟨rfl, hq3, f3⟩; have hR3 := Aside0.mk (R_fr hR.out f3); clear hq2 hR)
      | (go_at_call 22; refine (drop_I hq3 _ (by decide) false [] rfl rfl).mono ?_; rintro e w4 ⟨rfl, hq4, f4⟩; have hR4 := Aside0.mk (R_fr hR3.out f4); clear hq3 hR3)
      | (go_at_call 17; refine (list_I hq4 (by decide)).mono ?_; rintro e w5 ⟨v5, M5, rfl, hp5, hs5, hR5, hb5⟩; have hq5 := hq4.step hb5; have hM5 := Aside0.mk (And.intro hp5 hs5); have hR6 := Aside0.mk (And.intro (R_fr (N := W.heap.size) hR4.out (Fr.of_b hb5)) hR5); clear hq4 hR4 hR5 hp5 hs5)
      | (go_at_call 24; refine (waits_two hM.out.1 hM.out.2 hM5.out.1 hM5.out.2 List.nodup_nil hR6.out.1 hR6.out.2 (by decide)).mono ?_; rintro e w6 ⟨rfl, hb6⟩; have hq6 := hq5.step hb6; clear hq5)
      | (go_at_call 11; refine (len_I hq6 0 rfl).mono ?_; rintro e w7 ⟨rfl, hq7, f7⟩; clear hq6)
      | (go_at_call 15; refine (count_I hq7).mono ?_; rintro e w8 ⟨rfl, hq8, f8⟩; clear hq7)
      | (go_at_call 14; refine (wakes_calls _).mono ?_; rintro e w18 ⟨rfl, h18⟩))
    go_ret
    exact ⟨rfl, ((((((((f2.trans f3.b0).trans f4.b0).trans (Fr.of_b0 hb5)).trans (Fr.of_b0 hb6)).trans f7.b0).trans f8.b0).trans (Fr.of_b0 h18))).below (Nat.le_refl _) (fun k h => h)⟩
theorem room_calls (W : World) (a0 a1 a2 : Int) (w0 : (Lit.int .u8 a0).wf = true) (w2 : (Lit.int .u8 a2).wf = true) :
    Calls Try.prog 6 #[.int .u8 a0, .int .i64 a1, .int .u8 a2] W fun e w' => e = .returned (.bool true) ∧ Below W.heap.size W w' := by
  have b0 := Go.bounds_u8 w0
  have b2 := Go.bounds_u8 w2
  have e0 : wrap64 a0 = a0 := by unfold wrap64; omega
  have e2 : wrap64 a2 = a2 := by unfold wrap64; omega
  have hn : (wrap64 a0).tmod 60 = ((a0.toNat % 60 : Nat) : Int) := by rw [e0, Int.tmod_eq_emod_of_nonneg (by omega)]; omega
  clear e0
  by_cases h0 : 0 < a0.toNat % 60
  · have hk : (wrap64 a2).tmod ((a0.toNat % 60 : Nat) : Int) = ((a2.toNat % (a0.toNat % 60) : Nat) : Int) := by
      rw [e2, Int.tmod_eq_emod_of_nonneg (by omega)]
      generalize a0.toNat % 60 = m
      rw [Int.natCast_emod, Int.toNat_of_nonneg b2.1]
    have hk1 := Nat.mod_lt a2.toNat h0
    have hn1 : a0.toNat % 60 < 60 := Nat.mod_lt _ (by decide)
    by_cases m1 : 0 ≤ a1
    · by_cases m2 : a1 < 8
      · exact room_may W a0 a1 a2 _ _ hn hn1 h0 hk hk1 m1 m2
      · exact room_high W a0 a1 a2 _ _ hn hn1 h0 hk hk1 m1 m2
    · exact room_low W a0 a1 a2 _ _ hn hn1 h0 hk hk1 m1
  · have hn : (wrap64 a0).tmod 60 = 0 := by rw [hn]; omega
    by_cases m1 : 0 ≤ a1
    · by_cases m2 : a1 < 8
      · exact zero_may W a0 a1 a2 hn m1 m2
      · exact zero_high W a0 a1 a2 hn m1 m2
    · exact zero_low W a0 a1 a2 hn m1
end Go.Proofs.Ytgffcbhkkjigfaa.Ln
