/- QueueOrder as calls: true. Conditions: none. -/
import Derived.Test.YtgffcbhkkjigfaaOd
import Derived.Deep.DeepCutAuto
import Derived.Deep.CutBlock
namespace Go.Proofs.Ytgffcbhkkjigfaa.Ln
open Go.RowKit Go.Proofs.Ytgffcbhkkjigfaa.PBase Go.Proofs.Ytgffcbhkkjigfaa.Cat Go.Proofs.Ytgffcbhkkjigfaa.Heap Go.Proofs.YtgffcbhkkjigfaaW.PrintWords Go.Proofs.YtgffcbhkkjigfaaW.PrintLast Go.Proofs.YtgffcbhkkjigfaaW.PrintMore
set_option linter.unusedVariables false
attribute [local go_sem high] eqA32
theorem info3 : (Try.prog.info? 3).map (fun i => (i.zero, i.size, i.bytes)) = some (some (.int .i64 0), 1, 8) := by kernel_rfl
theorem under40 : Try.prog.underlying 40 = some (.slice 3) := by kernel_rfl
theorem Fr.of_own {W w1 : World} {v : Value} (h : W.grownBy w1 v.ownBlock) : Fr (fun k => v.ownBlock = some k) W w1 := Fr.of_grown h (fun _ e => e)
theorem mk_run : ∃ cs : Array Value, cs.size = 60 ∧ ∀ W : World, (Instr.makeSlice 40 (.int .i64 0) (.int .i64 60)).run Try.prog W = .ok (.slice (some ⟨W.heap.size, 0, none⟩) 0 60) (W.alloc (.cells cs 3)) := by
  obtain ⟨i0, hi, hzz⟩ := Option.map_eq_some_iff.1 info3
  simp only [Prod.mk.injEq] at hzz
  obtain ⟨hz0, hz1, hz2⟩ := hzz
  refine ⟨madeCells (Value.int .i64 0).cells 60, by rw [size_madeCells], fun W => ?_⟩
  have := run_make (P := Try.prog) W 40 3 i0 _ under40 hi hz0 .i64 .i64 0 60 (by decide) (by decide) (by rw [hz2]; decide) (by decide)
  rw [hz1] at this
  exact this
theorem mk_own (W : World) (base : Nat) (cs : Array Value) (hs : cs.size = 60) (hb : base ≤ W.heap.size) : (W.alloc (.cells cs 3)).ownsRow base 3 1 (.slice (some ⟨W.heap.size, 0, none⟩) 0 60) 0 [] :=
  ⟨rfl, .inr ⟨W.heap.size, 60, cs, rfl, hb, heap_alloc_new W _, by decide, by decide, by simpa using hs, by simp⟩⟩
theorem perm_len {M L : List S32} (h : M.Perm L) : (L.length : Int) = (M.length : Int) := by rw [h.length_eq]
theorem less_w (ag : Int) (x y : S32) (h : lt ag x y = true) (W : World) : Calls Try.prog 18 #[.int .i64 ag, .agg #[.int .i64 x.f0, .int .i64 x.f1, .int .i64 x.f2], .agg #[.int .i64 y.f0, .int .i64 y.f1, .int .i64 y.f2]] W fun e w' => e = .returned (.bool true) ∧ Below W.heap.size W w' := by
  have h1 := lt_is ag x y
  rw [h] at h1
  refine (Dr.turn_Less.calls ag x.f0 x.f1 x.f2 y.f0 y.f1 y.f2 true W h1).mono ?_
  rintro e w' ⟨rfl, hb⟩
  exact ⟨rfl, hb.b⟩
theorem wrap_prev {i : Nat} {p : Int} (h0 : 0 < (i : Int)) (h1 : i ≤ 60) (hp : (i : Int) - 1 = p) : IntKind.i64.wrap ((i : Int) - 1) = p := by rw [i64_w]; unfold wrap64; omega
theorem wrap_same {p : Int} (h0 : 0 ≤ p) (h1 : p ≤ 1000000) : IntKind.i64.wrap p = p := by rw [i64_w]; unfold wrap64; omega
/-- The list of counts appended to. -/
theorem o_app {N : Nat} {W w3 w4 : World} {B : Nat} {ag rm ct : Int} {L : List S32} {v v1 : Value} {n n1 : Nat} {cs cs1 : List Value} (HO : w3.ownsRow N 3 1 v n cs) (HF : Fr (fun k => N ≤ k) W w3) (hq : QI N (fun k => v.ownBlock = some k) w3 B ag rm ct L)
    (HO1 : w4.ownsRow N 3 1 v1 n1 cs1) (hg : w3.grownBy w4 v.ownBlock) (hat : v1.ownBlock = v.ownBlock ∨ ∃ b, v1.ownBlock = some b ∧ w3.heap.size ≤ b) : Fr (fun k => N ≤ k) W w4 ∧ QI N (fun k => v1.ownBlock = some k) w4 B ag rm ct L := by
  have hf := Fr.of_own hg
  refine ⟨HF.trans (hf.weak (fun k e => own_base HO k e)), hq.swap hf (fun k e => ⟨?_, own_lt HO1 k e⟩)⟩
  rcases hat with hat | ⟨b, hat, hb⟩
  · exact .inl (by rw [← hat]; exact e)
  · rw [hat] at e
    have : b = k := Option.some.inj e
    exact .inr (by omega)
set_option maxHeartbeats 4000000 in
set_option maxRecDepth 100000 in
theorem order_walk (W : World) (a0 : Int) (ag : Int) (A : Option Addr) (c : Nat) (l : List S32) (hag : (wrap64 (1 + (wrap64 a0).tmod 1000)) = ag) (h1 : 1 ≤ ag ∧ ag ≤ 1000) (hr : Kd.C k32 W A l.length l) :
    Calls Try.prog 4 #[.int .u16 a0, .slice A l.length c] W fun e w' => e = .returned (.bool true) ∧ Below W.heap.size W w' := by
  obtain ⟨cs, hcs, hmk⟩ := mk_run
  replace hcs := Aside0.mk hcs
  have hk0 := True.intro
  have HR := Aside0.mk hr
  clear hr
  go_enter Try.func4, Try.ntmps4
  go_wp2_with (first
    | (go_at_call 8; clear hk0; refine (new_I ag 60 W.heap.size _ (Nat.le_refl _) ⟨h1, by decide⟩).mono ?_; rintro e w1 ⟨B, rfl, hb1, h1⟩))
  have hb2 := below_drew1 hb1
  have hq2 := Aside0.mk (h1.step (pw_below_drewN (Below.refl _ _) 1))
  go_region_held3 (fun _ => True) (trivial) (fail)
  have hbA := below_alloc hb1 (.cells cs 3)
  have hbD := below_drew1 (Below.refl (w1.alloc (.cells cs 3)).heap.size (w1.alloc (.cells cs 3)))
  have hs1 : (w1.alloc (.cells cs 3)).heap.size = w1.heap.size + 1 := by simp
  have HO2 := Aside0.mk (pw_own_below (mk_own w1 W.heap.size cs hcs.out hb1.size) hbD)
  have hF2 : Aside0 (Fr (fun k => W.heap.size ≤ k) W ((w1.alloc (.cells cs 3)).drew)) := ⟨(Fr.of_b0 hbA).trans (Fr.of_b0 hbD)⟩
  have hq3 : QI W.heap.size (fun k => Value.ownBlock (.slice (some ⟨w1.heap.size, 0, none⟩) 0 60) = some k) ((w1.alloc (.cells cs 3)).drew) B ag 60 0 [] := by
    refine ((h1.more (Y := fun k => k = w1.heap.size) (below_alloc (Below.refl _ _) (.cells cs 3)) (fun k hk => ?_)).step hbD).swap (Fr.refl _ _) (fun k hk => ?_)
    · subst hk; exact ⟨Nat.le_refl _, by omega⟩
    · have e : k = w1.heap.size := by simpa [Value.ownBlock, eq_comm] using hk
      exact ⟨.inl (.inr e), by have := hbD.size; omega⟩
  clear hq2 h1 hmk hb2 hb1 hbA hbD hs1
  have HAG := Aside0.mk hag
  clear hag
  go_upto_block 0 with (fail)
  generalize (w1.alloc (.cells cs 3)).drew = w2 at HO2 hF2 hq3 ⊢
  generalize w1.heap.size = g2 at HO2 hq3 ⊢
  go_cut [7, 8] (fun v7 v8 wr => ∃ (i : Nat) (L : List S32) (ct : Int) (C : List Int), i ≤ 60 ∧ i ≤ l.length ∧ v7 = .int .i64 (L.length : Int) ∧ Aside0 (O1 ag l i L C) ∧ Aside0 (wr.ownsRow W.heap.size 3 1 v8 C.length (nums .i64 C)) ∧ QI W.heap.size (fun k => v8.ownBlock = some k) wr B ag 60 ct L ∧ Aside0 (Fr (fun k => W.heap.size ≤ k) W wr))
  case first =>
    as_aux_lemma =>
    go_wp2_with (fail)
    go_loopg [7, 8, 9] 60 (fun gg v7 v8 v9 wr => ∃ (i : Nat) (L : List S32) (ct : Int) (C : List Int), i ≤ 60 ∧ i ≤ l.length ∧ 60 - i ≤ gg ∧ v9 = .int .i64 i ∧ v7 = .int .i64 (L.length : Int) ∧ Aside0 (O1 ag l i L C) ∧ Aside0 (wr.ownsRow W.heap.size 3 1 v8 C.length (nums .i64 C)) ∧ QI W.heap.size (fun k => v8.ownBlock = some k) wr B ag 60 ct L ∧ Aside0 (Fr (fun k => W.heap.size ≤ k) W wr))
    case atStart => exact ⟨0, [], 0, [], by decide, Nat.zero_le _, by omega, rfl, rfl, ⟨O1.nil ag l⟩, HO2, hq3, hF2⟩
    case round =>
      obtain ⟨i, L, ct, C, hi60, hil, hgg, rfl, rfl, h1, HO, hq, HF⟩ := hrel
      clear HO2 hq3 hF2
      by_cases hi : i < l.length ∧ i < 60
      · have hi2 : (i : Int) < (l.length : Int) := by omega
        have hi3 : (i : Int) < 60 := by omega
        obtain ⟨ad, e1, hx0, hx1, hx2⟩ := at_T32 HR.out (i : Int) (by omega) (by omega)
        subst e1
        rw [Int.toNat_natCast] at hx0 hx1 hx2
        have hX := Aside0.mk (And.intro hx0 hx2)
        have hput := Aside0.mk (h1.out.put hi.2 ct)
        have hlen : L.length ≤ 90000 := by have := h1.out.le; omega
        obtain ⟨cl, hcl⟩ : ∃ cl, md (rd_T32 l i).f2 = cl := ⟨_, rfl⟩
        rw [hcl] at hput
        have hCl : (C.length + 1) * 8 ≤ 140737488355328 := by have := h1.out.len; omega
        clear hx0 hx1 hx2
        obtain ⟨A8, c8, rfl⟩ := own_slice HO.out
        have hp0 : 0 < (putL ag 60 ct L (i : Int) cl).length := by rw [hput.out.2.2]; omega
        have hp9 : (putL ag 60 ct L (i : Int) cl).length ≤ 90000 := by rw [hput.out.2.2]; have := h1.out.le; omega
        by_cases hd : Int.tmod (rd_T32 l i).f0 4 = 0
        · go_wp2_with (first
            | (go_at_call 15; refine (count_I hq).mono ?_; rintro e w3 ⟨rfl, hq3, f3⟩; have HO3 := Aside0.mk (own_fr HO.out f3 (fun k e h => h.2 e)); have HF3 := Aside0.mk (HF.out.trans f3.b0); replace hq3 := Aside0.mk hq3; clear hq HO HF f3)
            | ((with_reducible refine gate_builtin (b := .append) (xs := #[.tmp 37, .tmp 40]) rfl ?_); at_builtin; refine print_append_num W.heap.size rfl (.tmp 37) (.tmp 40) 40 3 .i64 8 (by rfl) under40 info3 (by decide) (.slice A8 C.length c8) C ct rfl rfl HO3.out (Below.refl _ _) HF3.out.size hCl ?_; intro v1 w4 HO4 hB4 hg4 hat4; have hQF := Aside0.mk (o_app HO3.out HF3.out hq3.out HO4 hg4 hat4); replace HO4 := Aside0.mk HO4; have hl2 := hQF.out.1.rd hX.out.2; clear HO3 HF3 hB4 hg4 hat4 hq3)
            | (go_at_call 16; refine (mod_calls _ cl _ hcl).mono ?_; rintro e w5 ⟨rfl, hb5⟩; have hq5 := Aside0.mk (hQF.out.2.step hb5); have HO5 := Aside0.mk (pw_own_below HO4.out hb5); have HF5 := Aside0.mk (hQF.out.1.trans (Fr.of_b0 hb5)); clear hQF HO4 hb5 hl2)
            | (go_at_call 12; refine (put_I hq5.out _ _ hlen 0 _ hput.out.1 rfl).mono ?_; rintro e w6 ⟨rfl, hq6, f6⟩; have HO6 := Aside0.mk (own_fr HO5.out f6 (fun k e h => h.2 e)); have HF6 := Aside0.mk (HF5.out.trans f6.b0); have hl0 := HF6.out.rd hX.out.1; replace hq6 := Aside0.mk hq6; clear hq5 HO5 HF5 f6)
            | (go_at_call 10; have hT := take_I hq6.out hp0 hp9 _ rfl _ rfl _ rfl; refine hT.mono ?_; clear hT; rintro e w7 ⟨rfl, hq7, f7⟩; have HO7 := Aside0.mk (own_fr HO6.out f7 (fun k e h => h.2 e)); have HF7 := Aside0.mk (HF6.out.trans f7.b0); replace hq7 := Aside0.mk hq7; clear hq6 HO6 HF6 f7 hl0))
          go_roundg (60 - (i + 1))
          case measure => omega
          case rel =>
            have hlt := take_len hput.out.2.1.st hp0
            exact ⟨i + 1, _, _, _, by omega, by omega, Nat.le_refl _, by go_num, congrArg (Value.int .i64) (by rw [hput.out.2.2] at hlt; omega), ⟨hput.out.2.1.take hp0⟩, ⟨pw_own_below HO7.out (below_alloc (Below.refl _ _) _)⟩, hq7.out.step (below_alloc (Below.refl _ _) _), ⟨HF7.out.trans (Fr.of_b0 (below_alloc (Below.refl _ _) _))⟩⟩
        · go_wp2_with (first
            | (go_at_call 15; refine (count_I hq).mono ?_; rintro e w3 ⟨rfl, hq3, f3⟩; have HO3 := Aside0.mk (own_fr HO.out f3 (fun k e h => h.2 e)); have HF3 := Aside0.mk (HF.out.trans f3.b0); replace hq3 := Aside0.mk hq3; clear hq HO HF f3)
            | ((with_reducible refine gate_builtin (b := .append) (xs := #[.tmp 37, .tmp 40]) rfl ?_); at_builtin; refine print_append_num W.heap.size rfl (.tmp 37) (.tmp 40) 40 3 .i64 8 (by rfl) under40 info3 (by decide) (.slice A8 C.length c8) C ct rfl rfl HO3.out (Below.refl _ _) HF3.out.size hCl ?_; intro v1 w4 HO4 hB4 hg4 hat4; have hQF := Aside0.mk (o_app HO3.out HF3.out hq3.out HO4 hg4 hat4); replace HO4 := Aside0.mk HO4; have hl2 := hQF.out.1.rd hX.out.2; clear HO3 HF3 hB4 hg4 hat4 hq3)
            | (go_at_call 16; refine (mod_calls _ cl _ hcl).mono ?_; rintro e w5 ⟨rfl, hb5⟩; have hq5 := Aside0.mk (hQF.out.2.step hb5); have HO5 := Aside0.mk (pw_own_below HO4.out hb5); have HF5 := Aside0.mk (hQF.out.1.trans (Fr.of_b0 hb5)); clear hQF HO4 hb5 hl2)
            | (go_at_call 12; refine (put_I hq5.out _ _ hlen 0 _ hput.out.1 rfl).mono ?_; rintro e w6 ⟨rfl, hq6, f6⟩; have HO6 := Aside0.mk (own_fr HO5.out f6 (fun k e h => h.2 e)); have HF6 := Aside0.mk (HF5.out.trans f6.b0); have hl0 := HF6.out.rd hX.out.1; replace hq6 := Aside0.mk hq6; clear hq5 HO5 HF5 f6))
          go_roundg (60 - (i + 1))
          case measure => omega
          case rel => exact ⟨i + 1, _, _, _, by omega, by omega, Nat.le_refl _, by go_num, congrArg (Value.int .i64) (by rw [hput.out.2.2]; omega), ⟨hput.out.2.1⟩, HO6, hq6.out, HF6⟩
      · by_cases hi2 : (i : Int) < (l.length : Int)
        · have hi3 : ¬ (i : Int) < 60 := by omega
          go_wp2_with (fail)
          go_meet
          exact ⟨i, L, ct, C, hi60, hil, rfl, h1, HO, hq, HF⟩
        · go_wp2_with (fail)
          go_meet
          exact ⟨i, L, ct, C, hi60, hil, rfl, h1, HO, hq, HF⟩
  case rest =>
    as_aux_lemma =>
    obtain ⟨i, L, ct, C, hi60, hil, rfl, h1, HO, hq, HF⟩ := hcut
    obtain ⟨A8, c8, rfl⟩ := own_slice HO.out
    have hlen : L.length ≤ 90000 := by have := h1.out.le; omega
    have hLi := h1.out.le
    go_wp2_with (first
      | (go_at_call 17; refine (list_I hq hlen).mono ?_; rintro e w2 ⟨v2, M, rfl, hp2, hs2, hR2, hb2⟩; have hx := list_X hq hR2 hb2; have hHF2 := Aside0.mk (HF.out.trans (Fr.of_b0 hb2)); have hM := Aside0.mk (And.intro hp2 hs2); have hHO2 := Aside0.mk (pw_own_below HO.out hb2); have hHR := Aside0.mk hx.2; have hq2 := Aside0.mk hx.1; have hML2 := perm_len hp2; obtain ⟨A12, c12, rfl⟩ := Kd.R_slice hx.2; clear hx hq hR2 hp2 hs2 HF HO hb2)
      | (go_at_call 11; refine (len_I hq2.out _ hML2).mono ?_; rintro e w3 ⟨rfl, hq3, f3⟩; have hHF3 := Aside0.mk (hHF2.out.trans f3.b0); have hHO3 := Aside0.mk (own_fr hHO2.out f3 (fun k e h => h.2 (.inl e))); have hHR3 := Aside0.mk (R_fr hHR.out f3); replace hq3 := Aside0.mk hq3; clear hq2 hHO2 hHF2 hHR f3))

    go_loopg [13] M.length (fun gg v13 wk => ∃ (i2 : Nat) (L2 : List S32) (ct2 : Int), i2 ≤ M.length ∧ M.length - i2 ≤ gg ∧ v13 = .int .i64 i2 ∧ Aside0 (O2 ag M i2 L2) ∧ Aside0 (wk.ownsRow W.heap.size 3 1 (.slice A8 C.length c8) C.length (nums .i64 C)) ∧ Aside0 (Kd.R k32 32 wk wc.heap.size (XL (fun k => Value.ownBlock (.slice A8 C.length c8) = some k) wc.heap.size w2.heap.size) (.slice A12 M.length c12) M) ∧ QI W.heap.size (XL (fun k => Value.ownBlock (.slice A8 C.length c8) = some k) wc.heap.size w2.heap.size) wk B ag 60 ct2 L2 ∧ Aside0 (Fr (fun k => W.heap.size ≤ k) W wk))
    case atStart => exact ⟨0, L, ct, Nat.zero_le _, by omega, rfl, ⟨⟨h1.out.st, hM.out.1.symm⟩⟩, hHO3, hHR3, hq3.out, hHF3⟩
    case round =>
      obtain ⟨i2, L2, ct2, hi2M, hg2, rfl, h2, HO4, HR4, hq4, HF4⟩ := hrel
      clear hq3 hHF3 hHR3 hHO3
      by_cases hj : i2 < M.length
      · have hj2 : (i2 : Int) < (M.length : Int) := by omega
        have hjB : i2 ≤ 60 := by omega
        have ht := Aside0.mk (h2.out.take hM.out.2 hj)
        have hat := h1.out.at hM.out.1 hj
        have hl0 : 0 < L2.length := by rw [h2.out.len]; omega
        have hl9 : L2.length ≤ 90000 := by rw [h2.out.len]; omega
        obtain ⟨J, hJ⟩ : ∃ J, (rd_T32 M i2).f0 = J := ⟨_, rfl⟩
        obtain ⟨K, hK⟩ : ∃ J, (rd_T32 M i2).f1 = J := ⟨_, rfl⟩
        obtain ⟨T, hT⟩ : ∃ J, (rd_T32 M i2).f2 = J := ⟨_, rfl⟩
        rw [hJ, hK, hT] at hat
        obtain ⟨hJ0, hJ1, hat1, hat2⟩ := hat
        replace hat1 := Aside0.mk hat1
        replace hat2 := Aside0.mk hat2
        have hJKT := Aside0.mk (And.intro hJ (And.intro hK hT))
        have hJl : J < (l.length : Int) := by omega
        have hJc : J < (C.length : Int) := by rw [h1.out.len]; exact hJ1
        obtain ⟨ad, e1, _, _, hx2⟩ := at_T32 HR.out J hJ0 (by omega)
        subst e1
        have hX := Aside0.mk hx2
        clear hx2
        go_upto_region 25 with (first
          | (go_at_call 10; have hTk := take_I hq4 hl0 hl9 _ rfl _ ht.out.1 _ rfl; rw [hJ, hK, hT] at hTk; refine hTk.mono ?_; clear hTk; rintro e w7 ⟨rfl, hq7, f7⟩; have HO7 := Aside0.mk (own_fr HO4.out f7 (fun k e h => h.2 (.inl e))); have HR7 := Aside0.mk (R_fr HR4.out f7); have HF7 := Aside0.mk (HF4.out.trans f7.b0); replace hq7 := Aside0.mk hq7; clear hq4 HO4 HR4 HF4 f7))
        have hb8 := below_alloc (Below.refl w7.heap.size w7) (.cells #[.int .i64 J, .int .i64 K, .int .i64 T] 32)
        have hx0 : (w7.alloc (.cells #[.int .i64 J, .int .i64 K, .int .i64 T] 32)).cell? ⟨w7.heap.size, 0, none⟩ = some (.int .i64 J) := by simp
        have hx1 : (w7.alloc (.cells #[.int .i64 J, .int .i64 K, .int .i64 T] 32)).cell? ⟨w7.heap.size, 1, none⟩ = some (.int .i64 K) := by simp
        have hx2 : (w7.alloc (.cells #[.int .i64 J, .int .i64 K, .int .i64 T] 32)).cell? ⟨w7.heap.size, 2, none⟩ = some (.int .i64 T) := by simp
        have HO8 := Aside0.mk (pw_own_below HO7.out hb8)
        have HR8 := Aside0.mk (Kd.R_below HR7.out hb8)
        have HF8 := Aside0.mk (HF7.out.trans (Fr.of_b0 hb8))
        have hq8 := Aside0.mk (hq7.out.step hb8)
        clear HO7 HR7 HF7 hq7 hb8
        generalize w7.alloc (.cells #[.int .i64 J, .int .i64 K, .int .i64 T] 32) = w8 at hx0 hx1 hx2 HO8 HR8 HF8 hq8 ⊢
        generalize w7.heap.size = g7 at hx0 hx1 hx2 ⊢
        obtain ⟨g8, cc, e8, _, _⟩ := HO8.out.form (by omega)
        cases e8
        have hx3 := (own_at HO8.out J hJ0 hJc).1
        rw [← hat2.out] at hx3
        have hx4 := HF8.out.rd hX.out
        have hCM := Kd.R_reads HR8.out
        obtain ⟨_, _, e9, hcM, hCM⟩ := hCM
        cases e9
        obtain ⟨ad2, e2, hx5, hx6, hx7⟩ := at_T32 hCM (i2 : Int) (by omega) hj2
        cases e2
        rw [Int.toNat_natCast] at hx5 hx6 hx7
        rw [hJ] at hx5
        rw [hK] at hx6
        rw [hT] at hx7
        have hbD := Aside0.mk (below_drew1 (Below.refl w8.heap.size w8))
        have p1 := eq_true hJ0
        have p2 := eq_true hJl
        have p3 := eq_true hJc
        have p4 := eq_true (show 0 ≤ (i2 : Int) by omega)
        have p5 := eq_true hj2
        go_cut [150] (fun s150 wx => s150 = .bool false ∧ Below w8.heap.size w8 wx)
        case first =>
          by_cases hz : i2 = 0
          · as_aux_lemma =>
            have hz0 : ¬ 0 < (i2 : Int) := by omega
            have d1 : decide (J < 0) = false := decide_eq_false (by omega)
            have d2 : decide ((C.length : Int) ≤ J) = false := decide_eq_false (by omega)
            have d3 : decide (0 < (i2 : Int)) = false := decide_eq_false hz0
            have d4 : decide (0 < i2) = false := decide_eq_false (by omega)
            have d5 : decide ((i2 : Int) ≤ 0) = true := decide_eq_true (by omega)
            clear hz
            have kp : Aside0 (∀ w', Below w8.heap.size w8 w' → w'.cell? ⟨g7, 0, none⟩ = some (.int .i64 J) ∧ w'.cell? ⟨g7, 1, none⟩ = some (.int .i64 K) ∧ w'.cell? ⟨g7, 2, none⟩ = some (.int .i64 T) ∧ w'.cell? ⟨g8, J.toNat, none⟩ = some (.int .i64 T) ∧ w'.cell? ⟨(ad.add (J.toNat * 3)).block, (ad.add (J.toNat * 3)).off + 2, none⟩ = some (.int .i64 (rd_T32 l J).f2) ∧ w'.cell? (ad2.add (i2 * 3)) = some (.int .i64 J) ∧ w'.cell? ⟨(ad2.add (i2 * 3)).block, (ad2.add (i2 * 3)).off + 1, none⟩ = some (.int .i64 K) ∧ w'.cell? ⟨(ad2.add (i2 * 3)).block, (ad2.add (i2 * 3)).off + 2, none⟩ = some (.int .i64 T)) := ⟨fun w' hb => ⟨(hb.cell (World.block_lt_of_cell? _ _ hx0)).trans hx0, (hb.cell (World.block_lt_of_cell? _ _ hx1)).trans hx1, (hb.cell (World.block_lt_of_cell? _ _ hx2)).trans hx2, (hb.cell (World.block_lt_of_cell? _ _ hx3)).trans hx3, (hb.cell (World.block_lt_of_cell? _ _ hx4)).trans hx4, (hb.cell (World.block_lt_of_cell? _ _ hx5)).trans hx5, (hb.cell (World.block_lt_of_cell? _ _ hx6)).trans hx6, (hb.cell (World.block_lt_of_cell? _ _ hx7)).trans hx7⟩⟩
            refine start_ (n := 59) (S := fun w' => w'.cell? ⟨g7, 0, none⟩ = some (.int .i64 J) ∧ w'.cell? ⟨g7, 1, none⟩ = some (.int .i64 K) ∧ w'.cell? ⟨g7, 2, none⟩ = some (.int .i64 T) ∧ w'.cell? ⟨g8, J.toNat, none⟩ = some (.int .i64 T) ∧ w'.cell? ⟨(ad.add (J.toNat * 3)).block, (ad.add (J.toNat * 3)).off + 2, none⟩ = some (.int .i64 (rd_T32 l J).f2) ∧ w'.cell? (ad2.add (i2 * 3)) = some (.int .i64 J) ∧ w'.cell? ⟨(ad2.add (i2 * 3)).block, (ad2.add (i2 * 3)).off + 1, none⟩ = some (.int .i64 K) ∧ w'.cell? ⟨(ad2.add (i2 * 3)).block, (ad2.add (i2 * 3)).off + 2, none⟩ = some (.int .i64 T)) (ds := []) #[false, false, false, false, false, false, false, false, false, false, false, false, false, false, false, false, false, false, false, false, false, false, false, false, false, false, false, false, false, false, false, false, false, false, false, false, false, false, false, false, false, false, false, false, false, false, false, false, false, false, false, false, false, false, false, false, false, false, false] (by kernel_rfl) rfl rfl (kp.out _ hbD.out) (fun hHeld => ?_)
            refine pure_ (i := 0) (N := some 92) (v := ?_) (a' := ?_) #[true, false, false, false, false, false, false, false, false, false, false, false, false, false, false, false, false, false, false, false, false, false, false, false, false, false, false, false, false, false, false, false, false, false, false, false, false, false, false, false, false, false, false, false, false, false, false, false, false, false, false, false, false, false, false, false, false, false, false] rfl rfl (by kernel_rfl) (fun _ _ _ h => h) (Or.inl ⟨by rfl, ?_⟩) ?_ ?_
            rotate_left
            · intro w'
              go_simp
              with_reducible rfl
            rotate_left
            · simp only [Act.put, List.setIfInBounds_toArray, List.set_cons_zero, List.set_cons_succ]
              rfl
            refine pure_ (i := 1) (N := some 93) (v := ?_) (a' := ?_) #[true, true, false, false, false, false, false, false, false, false, false, false, false, false, false, false, false, false, false, false, false, false, false, false, false, false, false, false, false, false, false, false, false, false, false, false, false, false, false, false, false, false, false, false, false, false, false, false, false, false, false, false, false, false, false, false, false, false, false] rfl rfl (by kernel_rfl) (fun _ _ _ h => h) (Or.inl ⟨by rfl, ?_⟩) ?_ ?_
            rotate_left
            · intro w'
              go_simp
              with_reducible rfl
            rotate_left
            · simp only [Act.put, List.setIfInBounds_toArray, List.set_cons_zero, List.set_cons_succ]
              rfl
            refine pure_ (i := 2) (N := some 94) (v := ?_) (a' := ?_) #[true, true, true, false, false, false, false, false, false, false, false, false, false, false, false, false, false, false, false, false, false, false, false, false, false, false, false, false, false, false, false, false, false, false, false, false, false, false, false, false, false, false, false, false, false, false, false, false, false, false, false, false, false, false, false, false, false, false, false] rfl rfl (by kernel_rfl) (fun _ _ _ h => h) (Or.inl ⟨by rfl, ?_⟩) ?_ ?_
            rotate_left
            · intro w'
              go_simp
              with_reducible rfl
            rotate_left
            · simp only [Act.put, List.setIfInBounds_toArray, List.set_cons_zero, List.set_cons_succ]
              rfl
            refine take_ (i := 3) (N := some 95) (v := ?_) (a' := ?_) #[true, true, true, true, false, false, false, false, false, false, false, false, false, false, false, false, false, false, false, false, false, false, false, false, false, false, false, false, false, false, false, false, false, false, false, false, false, false, false, false, false, false, false, false, false, false, false, false, false, false, false, false, false, false, false, false, false, false, false] rfl rfl (by kernel_rfl) (fun _ _ _ h => h) (Or.inl ⟨by rfl, ?_⟩) hHeld ?_ ?_
            rotate_left
            · rintro w' ⟨s0, s1, s2, s3, s4, s5, s6, s7⟩
              go_simp
              with_reducible rfl
            rotate_left
            · simp only [Act.put, List.setIfInBounds_toArray, List.set_cons_zero, List.set_cons_succ]
              rfl
            refine pure_ (i := 4) (N := some 96) (v := ?_) (a' := ?_) #[true, true, true, true, true, false, false, false, false, false, false, false, false, false, false, false, false, false, false, false, false, false, false, false, false, false, false, false, false, false, false, false, false, false, false, false, false, false, false, false, false, false, false, false, false, false, false, false, false, false, false, false, false, false, false, false, false, false, false] rfl rfl (by kernel_rfl) (fun _ _ _ h => h) (Or.inl ⟨by rfl, ?_⟩) ?_ ?_
            rotate_left
            · intro w'
              go_simp
              with_reducible rfl
            rotate_left
            · simp only [Act.put, List.setIfInBounds_toArray, List.set_cons_zero, List.set_cons_succ]
              rfl
            refine pure_ (i := 5) (N := some 97) (v := ?_) (a' := ?_) #[true, true, true, true, true, true, false, false, false, false, false, false, false, false, false, false, false, false, false, false, false, false, false, false, false, false, false, false, false, false, false, false, false, false, false, false, false, false, false, false, false, false, false, false, false, false, false, false, false, false, false, false, false, false, false, false, false, false, false] rfl rfl (by kernel_rfl) (fun _ _ _ h => h) (Or.inl ⟨by rfl, ?_⟩) ?_ ?_
            rotate_left
            · intro w'
              go_simp
              with_reducible rfl
            rotate_left
            · simp only [Act.put, List.setIfInBounds_toArray, List.set_cons_zero, List.set_cons_succ]
              rfl
            refine pure_ (i := 6) (N := some 98) (v := ?_) (a' := ?_) #[true, true, true, true, true, true, true, false, false, false, false, false, false, false, false, false, false, false, false, false, false, false, false, false, false, false, false, false, false, false, false, false, false, false, false, false, false, false, false, false, false, false, false, false, false, false, false, false, false, false, false, false, false, false, false, false, false, false, false] rfl rfl (by kernel_rfl) (fun _ _ _ h => h) (Or.inl ⟨by rfl, ?_⟩) ?_ ?_
            rotate_left
            · intro w'
              go_simp
              with_reducible rfl
            rotate_left
            · simp only [Act.put, List.setIfInBounds_toArray, List.set_cons_zero, List.set_cons_succ]
              rfl
            refine take_ (i := 7) (N := some 99) (v := ?_) (a' := ?_) #[true, true, true, true, true, true, true, true, false, false, false, false, false, false, false, false, false, false, false, false, false, false, false, false, false, false, false, false, false, false, false, false, false, false, false, false, false, false, false, false, false, false, false, false, false, false, false, false, false, false, false, false, false, false, false, false, false, false, false] rfl rfl (by kernel_rfl) (fun _ _ _ h => h) (Or.inl ⟨by rfl, ?_⟩) hHeld ?_ ?_
            rotate_left
            · rintro w' ⟨s0, s1, s2, s3, s4, s5, s6, s7⟩
              go_simp
              with_reducible rfl
            rotate_left
            · simp only [Act.put, List.setIfInBounds_toArray, List.set_cons_zero, List.set_cons_succ]
              rfl
            refine pure_ (i := 8) (N := some 100) (v := ?_) (a' := ?_) #[true, true, true, true, true, true, true, true, true, false, false, false, false, false, false, false, false, false, false, false, false, false, false, false, false, false, false, false, false, false, false, false, false, false, false, false, false, false, false, false, false, false, false, false, false, false, false, false, false, false, false, false, false, false, false, false, false, false, false] rfl rfl (by kernel_rfl) (fun _ _ _ h => h) (Or.inl ⟨by rfl, ?_⟩) ?_ ?_
            rotate_left
            · intro w'
              go_simp
              with_reducible rfl
            rotate_left
            · simp only [Act.put, List.setIfInBounds_toArray, List.set_cons_zero, List.set_cons_succ]
              rfl
            refine pure_ (i := 9) (N := some 101) (v := ?_) (a' := ?_) #[true, true, true, true, true, true, true, true, true, true, false, false, false, false, false, false, false, false, false, false, false, false, false, false, false, false, false, false, false, false, false, false, false, false, false, false, false, false, false, false, false, false, false, false, false, false, false, false, false, false, false, false, false, false, false, false, false, false, false] rfl rfl (by kernel_rfl) (fun _ _ _ h => h) (Or.inl ⟨by rfl, ?_⟩) ?_ ?_
            rotate_left
            · intro w'
              go_simp
              with_reducible rfl
            rotate_left
            · simp only [Act.put, List.setIfInBounds_toArray, List.set_cons_zero, List.set_cons_succ]
              rfl
            refine pure_ (i := 10) (N := some 102) (v := ?_) (a' := ?_) #[true, true, true, true, true, true, true, true, true, true, true, false, false, false, false, false, false, false, false, false, false, false, false, false, false, false, false, false, false, false, false, false, false, false, false, false, false, false, false, false, false, false, false, false, false, false, false, false, false, false, false, false, false, false, false, false, false, false, false] rfl rfl (by kernel_rfl) (fun _ _ _ h => h) (Or.inl ⟨by rfl, ?_⟩) ?_ ?_
            rotate_left
            · intro w'
              go_simp
              with_reducible rfl
            rotate_left
            · simp only [Act.put, List.setIfInBounds_toArray, List.set_cons_zero, List.set_cons_succ]
              rfl
            refine pure_ (i := 11) (N := some 103) (v := ?_) (a' := ?_) #[true, true, true, true, true, true, true, true, true, true, true, true, false, false, false, false, false, false, false, false, false, false, false, false, false, false, false, false, false, false, false, false, false, false, false, false, false, false, false, false, false, false, false, false, false, false, false, false, false, false, false, false, false, false, false, false, false, false, false] rfl rfl (by kernel_rfl) (fun _ _ _ h => h) (Or.inl ⟨by rfl, ?_⟩) ?_ ?_
            rotate_left
            · intro w'
              go_simp
              with_reducible rfl
            rotate_left
            · simp only [Act.put, List.setIfInBounds_toArray, List.set_cons_zero, List.set_cons_succ]
              rfl
            refine take_ (i := 12) (N := some 104) (v := ?_) (a' := ?_) #[true, true, true, true, true, true, true, true, true, true, true, true, true, false, false, false, false, false, false, false, false, false, false, false, false, false, false, false, false, false, false, false, false, false, false, false, false, false, false, false, false, false, false, false, false, false, false, false, false, false, false, false, false, false, false, false, false, false, false] rfl rfl (by kernel_rfl) (fun _ _ _ h => h) (Or.inl ⟨by rfl, ?_⟩) hHeld ?_ ?_
            rotate_left
            · rintro w' ⟨s0, s1, s2, s3, s4, s5, s6, s7⟩
              go_simp
              with_reducible rfl
            rotate_left
            · simp only [Act.put, List.setIfInBounds_toArray, List.set_cons_zero, List.set_cons_succ]
              rfl
            refine pure_ (i := 13) (N := some 105) (v := ?_) (a' := ?_) #[true, true, true, true, true, true, true, true, true, true, true, true, true, true, false, false, false, false, false, false, false, false, false, false, false, false, false, false, false, false, false, false, false, false, false, false, false, false, false, false, false, false, false, false, false, false, false, false, false, false, false, false, false, false, false, false, false, false, false] rfl rfl (by kernel_rfl) (fun _ _ _ h => h) (Or.inl ⟨by rfl, ?_⟩) ?_ ?_
            rotate_left
            · intro w'
              go_simp
              with_reducible rfl
            rotate_left
            · simp only [Act.put, List.setIfInBounds_toArray, List.set_cons_zero, List.set_cons_succ]
              rfl
            refine pure_ (i := 14) (N := some 106) (v := ?_) (a' := ?_) #[true, true, true, true, true, true, true, true, true, true, true, true, true, true, true, false, false, false, false, false, false, false, false, false, false, false, false, false, false, false, false, false, false, false, false, false, false, false, false, false, false, false, false, false, false, false, false, false, false, false, false, false, false, false, false, false, false, false, false] rfl rfl (by kernel_rfl) (fun _ _ _ h => h) (Or.inl ⟨by rfl, ?_⟩) ?_ ?_
            rotate_left
            · intro w'
              go_simp
              with_reducible rfl
            rotate_left
            · simp only [Act.put, List.setIfInBounds_toArray, List.set_cons_zero, List.set_cons_succ]
              rfl
            refine pure_ (i := 15) (N := some 107) (v := ?_) (a' := ?_) #[true, true, true, true, true, true, true, true, true, true, true, true, true, true, true, true, false, false, false, false, false, false, false, false, false, false, false, false, false, false, false, false, false, false, false, false, false, false, false, false, false, false, false, false, false, false, false, false, false, false, false, false, false, false, false, false, false, false, false] rfl rfl (by kernel_rfl) (fun _ _ _ h => h) (Or.inl ⟨by rfl, ?_⟩) ?_ ?_
            rotate_left
            · intro w'
              go_simp
              with_reducible rfl
            rotate_left
            · simp only [Act.put, List.setIfInBounds_toArray, List.set_cons_zero, List.set_cons_succ]
              rfl
            refine pure_ (i := 16) (N := some 108) (v := ?_) (a' := ?_) #[true, true, true, true, true, true, true, true, true, true, true, true, true, true, true, true, true, false, false, false, false, false, false, false, false, false, false, false, false, false, false, false, false, false, false, false, false, false, false, false, false, false, false, false, false, false, false, false, false, false, false, false, false, false, false, false, false, false, false] rfl rfl (by kernel_rfl) (fun _ _ _ h => h) (Or.inl ⟨by rfl, ?_⟩) ?_ ?_
            rotate_left
            · intro w'
              go_simp
              with_reducible rfl
            rotate_left
            · simp only [Act.put, List.setIfInBounds_toArray, List.set_cons_zero, List.set_cons_succ]
              rfl
            refine take_ (i := 17) (N := some 109) (v := ?_) (a' := ?_) #[true, true, true, true, true, true, true, true, true, true, true, true, true, true, true, true, true, true, false, false, false, false, false, false, false, false, false, false, false, false, false, false, false, false, false, false, false, false, false, false, false, false, false, false, false, false, false, false, false, false, false, false, false, false, false, false, false, false, false] rfl rfl (by kernel_rfl) (fun _ _ _ h => h) (Or.inl ⟨by rfl, ?_⟩) hHeld ?_ ?_
            rotate_left
            · rintro w' ⟨s0, s1, s2, s3, s4, s5, s6, s7⟩
              go_simp
              with_reducible rfl
            rotate_left
            · simp only [Act.put, List.setIfInBounds_toArray, List.set_cons_zero, List.set_cons_succ]
              rfl
            refine pure_ (i := 18) (N := some 110) (v := ?_) (a' := ?_) #[true, true, true, true, true, true, true, true, true, true, true, true, true, true, true, true, true, true, true, false, false, false, false, false, false, false, false, false, false, false, false, false, false, false, false, false, false, false, false, false, false, false, false, false, false, false, false, false, false, false, false, false, false, false, false, false, false, false, false] rfl rfl (by kernel_rfl) (fun _ _ _ h => h) (Or.inl ⟨by rfl, ?_⟩) ?_ ?_
            rotate_left
            · intro w'
              go_simp
              with_reducible rfl
            rotate_left
            · simp only [Act.put, List.setIfInBounds_toArray, List.set_cons_zero, List.set_cons_succ]
              rfl
            refine pure_ (i := 19) (N := some 111) (v := ?_) (a' := ?_) #[true, true, true, true, true, true, true, true, true, true, true, true, true, true, true, true, true, true, true, true, false, false, false, false, false, false, false, false, false, false, false, false, false, false, false, false, false, false, false, false, false, false, false, false, false, false, false, false, false, false, false, false, false, false, false, false, false, false, false] rfl rfl (by kernel_rfl) (fun _ _ _ h => h) (Or.inl ⟨by rfl, ?_⟩) ?_ ?_
            rotate_left
            · intro w'
              go_simp
              with_reducible rfl
            rotate_left
            · simp only [Act.put, List.setIfInBounds_toArray, List.set_cons_zero, List.set_cons_succ]
              rfl
            refine pure_ (i := 20) (N := some 112) (v := ?_) (a' := ?_) #[true, true, true, true, true, true, true, true, true, true, true, true, true, true, true, true, true, true, true, true, true, false, false, false, false, false, false, false, false, false, false, false, false, false, false, false, false, false, false, false, false, false, false, false, false, false, false, false, false, false, false, false, false, false, false, false, false, false, false] rfl rfl (by kernel_rfl) (fun _ _ _ h => h) (Or.inl ⟨by rfl, ?_⟩) ?_ ?_
            rotate_left
            · intro w'
              go_simp
              with_reducible rfl
            rotate_left
            · simp only [Act.put, List.setIfInBounds_toArray, List.set_cons_zero, List.set_cons_succ]
              rfl
            refine pure_ (i := 21) (N := some 113) (v := ?_) (a' := ?_) #[true, true, true, true, true, true, true, true, true, true, true, true, true, true, true, true, true, true, true, true, true, true, false, false, false, false, false, false, false, false, false, false, false, false, false, false, false, false, false, false, false, false, false, false, false, false, false, false, false, false, false, false, false, false, false, false, false, false, false] rfl rfl (by kernel_rfl) (fun _ _ _ h => h) (Or.inl ⟨by rfl, ?_⟩) ?_ ?_
            rotate_left
            · intro w'
              go_simp
              with_reducible rfl
            rotate_left
            · simp only [Act.put, List.setIfInBounds_toArray, List.set_cons_zero, List.set_cons_succ]
              rfl
            refine pure_ (i := 22) (N := some 114) (v := ?_) (a' := ?_) #[true, true, true, true, true, true, true, true, true, true, true, true, true, true, true, true, true, true, true, true, true, true, true, false, false, false, false, false, false, false, false, false, false, false, false, false, false, false, false, false, false, false, false, false, false, false, false, false, false, false, false, false, false, false, false, false, false, false, false] rfl rfl (by kernel_rfl) (fun _ _ _ h => h) (Or.inl ⟨by rfl, ?_⟩) ?_ ?_
            rotate_left
            · intro w'
              go_simp
              with_reducible rfl
            rotate_left
            · simp only [Act.put, List.setIfInBounds_toArray, List.set_cons_zero, List.set_cons_succ]
              rfl
            refine pure_ (i := 23) (N := some 115) (v := ?_) (a' := ?_) #[true, true, true, true, true, true, true, true, true, true, true, true, true, true, true, true, true, true, true, true, true, true, true, true, false, false, false, false, false, false, false, false, false, false, false, false, false, false, false, false, false, false, false, false, false, false, false, false, false, false, false, false, false, false, false, false, false, false, false] rfl rfl (by kernel_rfl) (fun _ _ _ h => h) (Or.inl ⟨by rfl, ?_⟩) ?_ ?_
            rotate_left
            · intro w'
              go_simp
              with_reducible rfl
            rotate_left
            · simp only [Act.put, List.setIfInBounds_toArray, List.set_cons_zero, List.set_cons_succ]
              rfl
            refine take_ (i := 24) (N := some 116) (v := ?_) (a' := ?_) #[true, true, true, true, true, true, true, true, true, true, true, true, true, true, true, true, true, true, true, true, true, true, true, true, true, false, false, false, false, false, false, false, false, false, false, false, false, false, false, false, false, false, false, false, false, false, false, false, false, false, false, false, false, false, false, false, false, false, false] rfl rfl (by kernel_rfl) (fun _ _ _ h => h) (Or.inl ⟨by rfl, ?_⟩) hHeld ?_ ?_
            rotate_left
            · rintro w' ⟨s0, s1, s2, s3, s4, s5, s6, s7⟩
              go_simp
              with_reducible rfl
            rotate_left
            · simp only [Act.put, List.setIfInBounds_toArray, List.set_cons_zero, List.set_cons_succ]
              rfl
            refine pure_ (i := 25) (N := some 117) (v := ?_) (a' := ?_) #[true, true, true, true, true, true, true, true, true, true, true, true, true, true, true, true, true, true, true, true, true, true, true, true, true, true, false, false, false, false, false, false, false, false, false, false, false, false, false, false, false, false, false, false, false, false, false, false, false, false, false, false, false, false, false, false, false, false, false] rfl rfl (by kernel_rfl) (fun _ _ _ h => h) (Or.inl ⟨by rfl, ?_⟩) ?_ ?_
            rotate_left
            · intro w'
              go_simp
              with_reducible rfl
            rotate_left
            · simp only [Act.put, List.setIfInBounds_toArray, List.set_cons_zero, List.set_cons_succ]
              rfl
            refine pure_ (i := 26) (N := some 118) (v := ?_) (a' := ?_) #[true, true, true, true, true, true, true, true, true, true, true, true, true, true, true, true, true, true, true, true, true, true, true, true, true, true, true, false, false, false, false, false, false, false, false, false, false, false, false, false, false, false, false, false, false, false, false, false, false, false, false, false, false, false, false, false, false, false, false] rfl rfl (by kernel_rfl) (fun _ _ _ h => h) (Or.inl ⟨by rfl, ?_⟩) ?_ ?_
            rotate_left
            · intro w'
              go_simp
              with_reducible rfl
            rotate_left
            · simp only [Act.put, List.setIfInBounds_toArray, List.set_cons_zero, List.set_cons_succ]
              rfl
            refine take_ (i := 27) (N := some 119) (v := ?_) (a' := ?_) #[true, true, true, true, true, true, true, true, true, true, true, true, true, true, true, true, true, true, true, true, true, true, true, true, true, true, true, true, false, false, false, false, false, false, false, false, false, false, false, false, false, false, false, false, false, false, false, false, false, false, false, false, false, false, false, false, false, false, false] rfl rfl (by kernel_rfl) (fun _ _ _ h => h) (Or.inl ⟨by rfl, ?_⟩) hHeld ?_ ?_
            rotate_left
            · rintro w' ⟨s0, s1, s2, s3, s4, s5, s6, s7⟩
              go_simp
              with_reducible rfl
            rotate_left
            · simp only [Act.put, List.setIfInBounds_toArray, List.set_cons_zero, List.set_cons_succ]
              rfl
            refine pure_ (i := 28) (N := some 120) (v := ?_) (a' := ?_) #[true, true, true, true, true, true, true, true, true, true, true, true, true, true, true, true, true, true, true, true, true, true, true, true, true, true, true, true, true, false, false, false, false, false, false, false, false, false, false, false, false, false, false, false, false, false, false, false, false, false, false, false, false, false, false, false, false, false, false] rfl rfl (by kernel_rfl) (fun _ _ _ h => h) (Or.inl ⟨by rfl, ?_⟩) ?_ ?_
            rotate_left
            · intro w'
              go_simp
              with_reducible rfl
            rotate_left
            · simp only [Act.put, List.setIfInBounds_toArray, List.set_cons_zero, List.set_cons_succ]
              rfl
            refine pure_ (i := 29) (N := some 121) (v := ?_) (a' := ?_) #[true, true, true, true, true, true, true, true, true, true, true, true, true, true, true, true, true, true, true, true, true, true, true, true, true, true, true, true, true, true, false, false, false, false, false, false, false, false, false, false, false, false, false, false, false, false, false, false, false, false, false, false, false, false, false, false, false, false, false] rfl rfl (by kernel_rfl) (fun _ _ _ h => h) (Or.inl ⟨by rfl, ?_⟩) ?_ ?_
            rotate_left
            · intro w'
              go_simp
              with_reducible rfl
            rotate_left
            · simp only [Act.put, List.setIfInBounds_toArray, List.set_cons_zero, List.set_cons_succ]
              rfl
            refine take_ (i := 30) (N := some 122) (v := ?_) (a' := ?_) #[true, true, true, true, true, true, true, true, true, true, true, true, true, true, true, true, true, true, true, true, true, true, true, true, true, true, true, true, true, true, true, false, false, false, false, false, false, false, false, false, false, false, false, false, false, false, false, false, false, false, false, false, false, false, false, false, false, false, false] rfl rfl (by kernel_rfl) (fun _ _ _ h => h) (Or.inl ⟨by rfl, ?_⟩) hHeld ?_ ?_
            rotate_left
            · rintro w' ⟨s0, s1, s2, s3, s4, s5, s6, s7⟩
              go_simp
              with_reducible rfl
            rotate_left
            · simp only [Act.put, List.setIfInBounds_toArray, List.set_cons_zero, List.set_cons_succ]
              rfl
            refine one_ (i := 31) (N := some 123) #[true, true, true, true, true, true, true, true, true, true, true, true, true, true, true, true, true, true, true, true, true, true, true, true, true, true, true, true, true, true, true, true, false, false, false, false, false, false, false, false, false, false, false, false, false, false, false, false, false, false, false, false, false, false, false, false, false, false, false] rfl rfl (by kernel_rfl) (by decide) (fun K hK => ?_)
            go_simp
            refine (mod_calls _ _ _ hat1.out.symm).mono ?_
            rintro e w9 ⟨rfl, hb9⟩
            go_wp2_with (fail)
            refine hK.out _ _ (kp.out _ (below_step hbD.out hb9)) (fun hHeld => ?_)
            clear hK K
            refine pure_ (i := 32) (N := some 124) (v := ?_) (a' := ?_) #[true, true, true, true, true, true, true, true, true, true, true, true, true, true, true, true, true, true, true, true, true, true, true, true, true, true, true, true, true, true, true, true, true, false, false, false, false, false, false, false, false, false, false, false, false, false, false, false, false, false, false, false, false, false, false, false, false, false, false] rfl rfl (by kernel_rfl) (fun _ _ _ h => h) (Or.inl ⟨by rfl, ?_⟩) ?_ ?_
            rotate_left
            · intro w'
              go_simp
              with_reducible rfl
            rotate_left
            · simp only [Act.put, List.setIfInBounds_toArray, List.set_cons_zero, List.set_cons_succ]
              rfl
            refine pure_ (i := 33) (N := some 125) (v := ?_) (a' := ?_) #[true, true, true, true, true, true, true, true, true, true, true, true, true, true, true, true, true, true, true, true, true, true, true, true, true, true, true, true, true, true, true, true, true, true, false, false, false, false, false, false, false, false, false, false, false, false, false, false, false, false, false, false, false, false, false, false, false, false, false] rfl rfl (by kernel_rfl) (fun _ _ _ h => h) (Or.inl ⟨by rfl, ?_⟩) ?_ ?_
            rotate_left
            · intro w'
              go_simp
              with_reducible rfl
            rotate_left
            · simp only [Act.put, List.setIfInBounds_toArray, List.set_cons_zero, List.set_cons_succ]
              rfl
            refine pure_ (i := 34) (N := some 126) (v := ?_) (a' := ?_) #[true, true, true, true, true, true, true, true, true, true, true, true, true, true, true, true, true, true, true, true, true, true, true, true, true, true, true, true, true, true, true, true, true, true, true, false, false, false, false, false, false, false, false, false, false, false, false, false, false, false, false, false, false, false, false, false, false, false, false] rfl rfl (by kernel_rfl) (fun _ _ _ h => h) (Or.inl ⟨by rfl, ?_⟩) ?_ ?_
            rotate_left
            · intro w'
              go_simp
              with_reducible rfl
            rotate_left
            · simp only [Act.put, List.setIfInBounds_toArray, List.set_cons_zero, List.set_cons_succ]
              rfl
            refine pure_ (i := 35) (N := some 127) (v := ?_) (a' := ?_) #[true, true, true, true, true, true, true, true, true, true, true, true, true, true, true, true, true, true, true, true, true, true, true, true, true, true, true, true, true, true, true, true, true, true, true, true, false, false, false, false, false, false, false, false, false, false, false, false, false, false, false, false, false, false, false, false, false, false, false] rfl rfl (by kernel_rfl) (fun _ _ _ h => h) (Or.inl ⟨by rfl, ?_⟩) ?_ ?_
            rotate_left
            · intro w'
              go_simp
              with_reducible rfl
            rotate_left
            · simp only [Act.put, List.setIfInBounds_toArray, List.set_cons_zero, List.set_cons_succ]
              rfl
            refine take_ (i := 36) (N := some 128) (v := ?_) (a' := ?_) #[true, true, true, true, true, true, true, true, true, true, true, true, true, true, true, true, true, true, true, true, true, true, true, true, true, true, true, true, true, true, true, true, true, true, true, true, true, false, false, false, false, false, false, false, false, false, false, false, false, false, false, false, false, false, false, false, false, false, false] rfl rfl (by kernel_rfl) (fun _ _ _ h => h) (Or.inl ⟨by rfl, ?_⟩) hHeld ?_ ?_
            rotate_left
            · rintro w' ⟨s0, s1, s2, s3, s4, s5, s6, s7⟩
              go_simp
              with_reducible rfl
            rotate_left
            · simp only [Act.put, List.setIfInBounds_toArray, List.set_cons_zero, List.set_cons_succ]
              rfl
            refine pure_ (i := 37) (N := some 129) (v := ?_) (a' := ?_) #[true, true, true, true, true, true, true, true, true, true, true, true, true, true, true, true, true, true, true, true, true, true, true, true, true, true, true, true, true, true, true, true, true, true, true, true, true, true, false, false, false, false, false, false, false, false, false, false, false, false, false, false, false, false, false, false, false, false, false] rfl rfl (by kernel_rfl) (fun _ _ _ h => h) (Or.inl ⟨by rfl, ?_⟩) ?_ ?_
            rotate_left
            · intro w'
              go_simp
              with_reducible rfl
            rotate_left
            · simp only [Act.put, List.setIfInBounds_toArray, List.set_cons_zero, List.set_cons_succ]
              rfl
            refine pure_ (i := 38) (N := some 130) (v := ?_) (a' := ?_) #[true, true, true, true, true, true, true, true, true, true, true, true, true, true, true, true, true, true, true, true, true, true, true, true, true, true, true, true, true, true, true, true, true, true, true, true, true, true, true, false, false, false, false, false, false, false, false, false, false, false, false, false, false, false, false, false, false, false, false] rfl rfl (by kernel_rfl) (fun _ _ _ h => h) (Or.inl ⟨by rfl, ?_⟩) ?_ ?_
            rotate_left
            · intro w'
              go_simp
              with_reducible rfl
            rotate_left
            · simp only [Act.put, List.setIfInBounds_toArray, List.set_cons_zero, List.set_cons_succ]
              rfl
            refine take_ (i := 39) (N := some 131) (v := ?_) (a' := ?_) #[true, true, true, true, true, true, true, true, true, true, true, true, true, true, true, true, true, true, true, true, true, true, true, true, true, true, true, true, true, true, true, true, true, true, true, true, true, true, true, true, false, false, false, false, false, false, false, false, false, false, false, false, false, false, false, false, false, false, false] rfl rfl (by kernel_rfl) (fun _ _ _ h => h) (Or.inl ⟨by rfl, ?_⟩) hHeld ?_ ?_
            rotate_left
            · rintro w' ⟨s0, s1, s2, s3, s4, s5, s6, s7⟩
              go_simp
              with_reducible rfl
            rotate_left
            · simp only [Act.put, List.setIfInBounds_toArray, List.set_cons_zero, List.set_cons_succ]
              rfl
            refine pure_ (i := 40) (N := some 132) (v := ?_) (a' := ?_) #[true, true, true, true, true, true, true, true, true, true, true, true, true, true, true, true, true, true, true, true, true, true, true, true, true, true, true, true, true, true, true, true, true, true, true, true, true, true, true, true, true, false, false, false, false, false, false, false, false, false, false, false, false, false, false, false, false, false, false] rfl rfl (by kernel_rfl) (fun _ _ _ h => h) (Or.inl ⟨by rfl, ?_⟩) ?_ ?_
            rotate_left
            · intro w'
              go_simp
              with_reducible rfl
            rotate_left
            · simp only [Act.put, List.setIfInBounds_toArray, List.set_cons_zero, List.set_cons_succ]
              rfl
            refine take_ (i := 41) (N := some 133) (v := ?_) (a' := ?_) #[true, true, true, true, true, true, true, true, true, true, true, true, true, true, true, true, true, true, true, true, true, true, true, true, true, true, true, true, true, true, true, true, true, true, true, true, true, true, true, true, true, true, false, false, false, false, false, false, false, false, false, false, false, false, false, false, false, false, false] rfl rfl (by kernel_rfl) (fun _ _ _ h => h) (Or.inl ⟨by rfl, ?_⟩) hHeld ?_ ?_
            rotate_left
            · rintro w' ⟨s0, s1, s2, s3, s4, s5, s6, s7⟩
              go_simp
              with_reducible rfl
            rotate_left
            · simp only [Act.put, List.setIfInBounds_toArray, List.set_cons_zero, List.set_cons_succ]
              rfl
            refine pure_ (i := 42) (N := some 134) (v := ?_) (a' := ?_) #[true, true, true, true, true, true, true, true, true, true, true, true, true, true, true, true, true, true, true, true, true, true, true, true, true, true, true, true, true, true, true, true, true, true, true, true, true, true, true, true, true, true, true, false, false, false, false, false, false, false, false, false, false, false, false, false, false, false, false] rfl rfl (by kernel_rfl) (fun _ _ _ h => h) (Or.inl ⟨by rfl, ?_⟩) ?_ ?_
            rotate_left
            · intro w'
              go_simp
              with_reducible rfl
            rotate_left
            · simp only [Act.put, List.setIfInBounds_toArray, List.set_cons_zero, List.set_cons_succ]
              rfl
            refine pure_ (i := 43) (N := some 135) (v := ?_) (a' := ?_) #[true, true, true, true, true, true, true, true, true, true, true, true, true, true, true, true, true, true, true, true, true, true, true, true, true, true, true, true, true, true, true, true, true, true, true, true, true, true, true, true, true, true, true, true, false, false, false, false, false, false, false, false, false, false, false, false, false, false, false] rfl rfl (by kernel_rfl) (fun _ _ _ h => h) (Or.inl ⟨by rfl, ?_⟩) ?_ ?_
            rotate_left
            · intro w'
              go_simp
              with_reducible rfl
            rotate_left
            · simp only [Act.put, List.setIfInBounds_toArray, List.set_cons_zero, List.set_cons_succ]
              rfl
            refine pure_ (i := 44) (N := some 136) (v := ?_) (a' := ?_) #[true, true, true, true, true, true, true, true, true, true, true, true, true, true, true, true, true, true, true, true, true, true, true, true, true, true, true, true, true, true, true, true, true, true, true, true, true, true, true, true, true, true, true, true, true, false, false, false, false, false, false, false, false, false, false, false, false, false, false] rfl rfl (by kernel_rfl) (fun _ _ _ h => h) (Or.inl ⟨by rfl, ?_⟩) ?_ ?_
            rotate_left
            · intro w'
              go_simp
              with_reducible rfl
            rotate_left
            · simp only [Act.put, List.setIfInBounds_toArray, List.set_cons_zero, List.set_cons_succ]
              rfl
            refine pure_ (i := 45) (N := some 137) (v := ?_) (a' := ?_) #[true, true, true, true, true, true, true, true, true, true, true, true, true, true, true, true, true, true, true, true, true, true, true, true, true, true, true, true, true, true, true, true, true, true, true, true, true, true, true, true, true, true, true, true, true, true, false, false, false, false, false, false, false, false, false, false, false, false, false] rfl rfl (by kernel_rfl) (fun _ _ _ h => h) (Or.inl ⟨by rfl, ?_⟩) ?_ ?_
            rotate_left
            · intro w'
              go_simp
              with_reducible rfl
            rotate_left
            · simp only [Act.put, List.setIfInBounds_toArray, List.set_cons_zero, List.set_cons_succ]
              rfl
            refine pure_ (i := 46) (N := some 138) (v := ?_) (a' := ?_) #[true, true, true, true, true, true, true, true, true, true, true, true, true, true, true, true, true, true, true, true, true, true, true, true, true, true, true, true, true, true, true, true, true, true, true, true, true, true, true, true, true, true, true, true, true, true, true, false, false, false, false, false, false, false, false, false, false, false, false] rfl rfl (by kernel_rfl) (fun _ _ _ h => h) (Or.inl ⟨by rfl, ?_⟩) ?_ ?_
            rotate_left
            · intro w'
              go_simp
              with_reducible rfl
            rotate_left
            · simp only [Act.put, List.setIfInBounds_toArray, List.set_cons_zero, List.set_cons_succ]
              rfl
            refine pure_ (i := 47) (N := some 139) (v := ?_) (a' := ?_) #[true, true, true, true, true, true, true, true, true, true, true, true, true, true, true, true, true, true, true, true, true, true, true, true, true, true, true, true, true, true, true, true, true, true, true, true, true, true, true, true, true, true, true, true, true, true, true, true, false, false, false, false, false, false, false, false, false, false, false] rfl rfl (by kernel_rfl) (fun _ _ _ h => h) (Or.inl ⟨by rfl, ?_⟩) ?_ ?_
            rotate_left
            · intro w'
              go_simp
              with_reducible rfl
            rotate_left
            · simp only [Act.put, List.setIfInBounds_toArray, List.set_cons_zero, List.set_cons_succ]
              rfl
            refine pure_ (i := 48) (N := some 140) (v := undef) (a' := ?_) #[true, true, true, true, true, true, true, true, true, true, true, true, true, true, true, true, true, true, true, true, true, true, true, true, true, true, true, true, true, true, true, true, true, true, true, true, true, true, true, true, true, true, true, true, true, true, true, true, true, false, false, false, false, false, false, false, false, false, false] rfl rfl (by kernel_rfl) (fun _ _ _ h => h) (Or.inr ⟨by rfl, rfl⟩) ?_ ?_
            rotate_left
            · simp only [Act.put, List.setIfInBounds_toArray, List.set_cons_zero, List.set_cons_succ]
              rfl
            refine pure_ (i := 49) (N := some 141) (v := undef) (a' := ?_) #[true, true, true, true, true, true, true, true, true, true, true, true, true, true, true, true, true, true, true, true, true, true, true, true, true, true, true, true, true, true, true, true, true, true, true, true, true, true, true, true, true, true, true, true, true, true, true, true, true, true, false, false, false, false, false, false, false, false, false] rfl rfl (by kernel_rfl) (fun _ _ _ h => h) (Or.inr ⟨by rfl, rfl⟩) ?_ ?_
            rotate_left
            · simp only [Act.put, List.setIfInBounds_toArray, List.set_cons_zero, List.set_cons_succ]
              rfl
            refine pure_ (i := 50) (N := some 142) (v := undef) (a' := ?_) #[true, true, true, true, true, true, true, true, true, true, true, true, true, true, true, true, true, true, true, true, true, true, true, true, true, true, true, true, true, true, true, true, true, true, true, true, true, true, true, true, true, true, true, true, true, true, true, true, true, true, true, false, false, false, false, false, false, false, false] rfl rfl (by kernel_rfl) (fun _ _ _ h => h) (Or.inr ⟨by rfl, rfl⟩) ?_ ?_
            rotate_left
            · simp only [Act.put, List.setIfInBounds_toArray, List.set_cons_zero, List.set_cons_succ]
              rfl
            refine pure_ (i := 51) (N := some 143) (v := undef) (a' := ?_) #[true, true, true, true, true, true, true, true, true, true, true, true, true, true, true, true, true, true, true, true, true, true, true, true, true, true, true, true, true, true, true, true, true, true, true, true, true, true, true, true, true, true, true, true, true, true, true, true, true, true, true, true, false, false, false, false, false, false, false] rfl rfl (by kernel_rfl) (fun _ _ _ h => h) (Or.inr ⟨by rfl, rfl⟩) ?_ ?_
            rotate_left
            · simp only [Act.put, List.setIfInBounds_toArray, List.set_cons_zero, List.set_cons_succ]
              rfl
            refine pure_ (i := 52) (N := some 144) (v := undef) (a' := ?_) #[true, true, true, true, true, true, true, true, true, true, true, true, true, true, true, true, true, true, true, true, true, true, true, true, true, true, true, true, true, true, true, true, true, true, true, true, true, true, true, true, true, true, true, true, true, true, true, true, true, true, true, true, true, false, false, false, false, false, false] rfl rfl (by kernel_rfl) (fun _ _ _ h => h) (Or.inr ⟨by rfl, rfl⟩) ?_ ?_
            rotate_left
            · simp only [Act.put, List.setIfInBounds_toArray, List.set_cons_zero, List.set_cons_succ]
              rfl
            refine pure_ (i := 53) (N := some 145) (v := undef) (a' := ?_) #[true, true, true, true, true, true, true, true, true, true, true, true, true, true, true, true, true, true, true, true, true, true, true, true, true, true, true, true, true, true, true, true, true, true, true, true, true, true, true, true, true, true, true, true, true, true, true, true, true, true, true, true, true, true, false, false, false, false, false] rfl rfl (by kernel_rfl) (fun _ _ _ h => h) (Or.inr ⟨by rfl, rfl⟩) ?_ ?_
            rotate_left
            · simp only [Act.put, List.setIfInBounds_toArray, List.set_cons_zero, List.set_cons_succ]
              rfl
            refine pure_ (i := 54) (N := some 146) (v := undef) (a' := ?_) #[true, true, true, true, true, true, true, true, true, true, true, true, true, true, true, true, true, true, true, true, true, true, true, true, true, true, true, true, true, true, true, true, true, true, true, true, true, true, true, true, true, true, true, true, true, true, true, true, true, true, true, true, true, true, true, false, false, false, false] rfl rfl (by kernel_rfl) (fun _ _ _ h => h) (Or.inr ⟨by rfl, rfl⟩) ?_ ?_
            rotate_left
            · simp only [Act.put, List.setIfInBounds_toArray, List.set_cons_zero, List.set_cons_succ]
              rfl
            refine pure_ (i := 55) (N := some 147) (v := undef) (a' := ?_) #[true, true, true, true, true, true, true, true, true, true, true, true, true, true, true, true, true, true, true, true, true, true, true, true, true, true, true, true, true, true, true, true, true, true, true, true, true, true, true, true, true, true, true, true, true, true, true, true, true, true, true, true, true, true, true, true, false, false, false] rfl rfl (by kernel_rfl) (fun _ _ _ h => h) (Or.inr ⟨by rfl, rfl⟩) ?_ ?_
            rotate_left
            · simp only [Act.put, List.setIfInBounds_toArray, List.set_cons_zero, List.set_cons_succ]
              rfl
            refine pure_ (i := 56) (N := some 148) (v := undef) (a' := ?_) #[true, true, true, true, true, true, true, true, true, true, true, true, true, true, true, true, true, true, true, true, true, true, true, true, true, true, true, true, true, true, true, true, true, true, true, true, true, true, true, true, true, true, true, true, true, true, true, true, true, true, true, true, true, true, true, true, true, false, false] rfl rfl (by kernel_rfl) (fun _ _ _ h => h) (Or.inr ⟨by rfl, rfl⟩) ?_ ?_
            rotate_left
            · simp only [Act.put, List.setIfInBounds_toArray, List.set_cons_zero, List.set_cons_succ]
              rfl
            refine pure_ (i := 57) (N := some 149) (v := ?_) (a' := ?_) #[true, true, true, true, true, true, true, true, true, true, true, true, true, true, true, true, true, true, true, true, true, true, true, true, true, true, true, true, true, true, true, true, true, true, true, true, true, true, true, true, true, true, true, true, true, true, true, true, true, true, true, true, true, true, true, true, true, true, false] rfl rfl (by kernel_rfl) (fun _ _ _ h => h) (Or.inl ⟨by rfl, ?_⟩) ?_ ?_
            rotate_left
            · intro w'
              go_simp
              with_reducible rfl
            rotate_left
            · simp only [Act.put, List.setIfInBounds_toArray, List.set_cons_zero, List.set_cons_succ]
              rfl
            refine pure_ (i := 58) (N := some 150) (v := ?_) (a' := ?_) #[true, true, true, true, true, true, true, true, true, true, true, true, true, true, true, true, true, true, true, true, true, true, true, true, true, true, true, true, true, true, true, true, true, true, true, true, true, true, true, true, true, true, true, true, true, true, true, true, true, true, true, true, true, true, true, true, true, true, true] rfl rfl (by kernel_rfl) (fun _ _ _ h => h) (Or.inl ⟨by rfl, ?_⟩) ?_ ?_
            rotate_left
            · intro w'
              go_simp
              with_reducible rfl
            rotate_left
            · simp only [Act.put, List.setIfInBounds_toArray, List.set_cons_zero, List.set_cons_succ]
              rfl
            refine done_ (by kernel_rfl) ?_
            have hbE := below_step hbD.out hb9
            go_wp2_with (fail)
            go_meet
            exact ⟨rfl, hbE⟩
          · as_aux_lemma =>
            have hz0 : 0 < (i2 : Int) := by omega
            have hlp := less_prev hM.out.2 ((ids_perm hM.out.1).nodup_iff.2 h1.out.st.nd) (Nat.pos_of_ne_zero hz) hj
            obtain ⟨p, hp⟩ : ∃ p : Int, (i2 : Int) - 1 = p := ⟨_, rfl⟩
            rw [hp] at hlp
            have hwp := wrap_prev hz0 hjB hp
            have hwp2 := wrap_same (p := p) (by omega) (by omega)
            have hp0' : 0 ≤ p := by omega
            have hp1' : p < (M.length : Int) := by omega
            obtain ⟨ad3, e3, hp0, hp1, hp2⟩ := at_T32 hCM p hp0' hp1'
            cases e3
            have q1 := eq_true hp0'
            have d1 : decide (J < 0) = false := decide_eq_false (by omega)
            have d2 : decide ((C.length : Int) ≤ J) = false := decide_eq_false (by omega)
            have d3 : decide (0 < (i2 : Int)) = true := decide_eq_true hz0
            have d4 : decide (0 < i2) = true := decide_eq_true (by omega)
            have q2 := eq_true hp1'
            have hLess : Aside0 (∀ W, Calls Try.prog 18 #[.int .i64 ag, .agg #[.int .i64 (rd_T32 M p).f0, .int .i64 (rd_T32 M p).f1, .int .i64 (rd_T32 M p).f2], .agg #[.int .i64 J, .int .i64 K, .int .i64 T]] W fun e w' => e = .returned (.bool true) ∧ Below W.heap.size W w') := ⟨by
              have := less_w ag (rd_T32 M p) (rd_T32 M i2) hlp
              rw [hJ, hK, hT] at this
              exact this⟩
            clear hp
            have kp : Aside0 (∀ w', Below w8.heap.size w8 w' → w'.cell? ⟨g7, 0, none⟩ = some (.int .i64 J) ∧ w'.cell? ⟨g7, 1, none⟩ = some (.int .i64 K) ∧ w'.cell? ⟨g7, 2, none⟩ = some (.int .i64 T) ∧ w'.cell? ⟨g8, J.toNat, none⟩ = some (.int .i64 T) ∧ w'.cell? ⟨(ad.add (J.toNat * 3)).block, (ad.add (J.toNat * 3)).off + 2, none⟩ = some (.int .i64 (rd_T32 l J).f2) ∧ w'.cell? (ad2.add (i2 * 3)) = some (.int .i64 J) ∧ w'.cell? ⟨(ad2.add (i2 * 3)).block, (ad2.add (i2 * 3)).off + 1, none⟩ = some (.int .i64 K) ∧ w'.cell? ⟨(ad2.add (i2 * 3)).block, (ad2.add (i2 * 3)).off + 2, none⟩ = some (.int .i64 T) ∧ w'.cell? (ad2.add (p.toNat * 3)) = some (.int .i64 (rd_T32 M p).f0) ∧ w'.cell? ⟨(ad2.add (p.toNat * 3)).block, (ad2.add (p.toNat * 3)).off + 1, none⟩ = some (.int .i64 (rd_T32 M p).f1) ∧ w'.cell? ⟨(ad2.add (p.toNat * 3)).block, (ad2.add (p.toNat * 3)).off + 2, none⟩ = some (.int .i64 (rd_T32 M p).f2)) := ⟨fun w' hb => ⟨(hb.cell (World.block_lt_of_cell? _ _ hx0)).trans hx0, (hb.cell (World.block_lt_of_cell? _ _ hx1)).trans hx1, (hb.cell (World.block_lt_of_cell? _ _ hx2)).trans hx2, (hb.cell (World.block_lt_of_cell? _ _ hx3)).trans hx3, (hb.cell (World.block_lt_of_cell? _ _ hx4)).trans hx4, (hb.cell (World.block_lt_of_cell? _ _ hx5)).trans hx5, (hb.cell (World.block_lt_of_cell? _ _ hx6)).trans hx6, (hb.cell (World.block_lt_of_cell? _ _ hx7)).trans hx7, (hb.cell (World.block_lt_of_cell? _ _ hp0)).trans hp0, (hb.cell (World.block_lt_of_cell? _ _ hp1)).trans hp1, (hb.cell (World.block_lt_of_cell? _ _ hp2)).trans hp2⟩⟩
            go_region_held3 (fun w' => w'.cell? ⟨g7, 0, none⟩ = some (.int .i64 J) ∧ w'.cell? ⟨g7, 1, none⟩ = some (.int .i64 K) ∧ w'.cell? ⟨g7, 2, none⟩ = some (.int .i64 T) ∧ w'.cell? ⟨g8, J.toNat, none⟩ = some (.int .i64 T) ∧ w'.cell? ⟨(ad.add (J.toNat * 3)).block, (ad.add (J.toNat * 3)).off + 2, none⟩ = some (.int .i64 (rd_T32 l J).f2) ∧ w'.cell? (ad2.add (i2 * 3)) = some (.int .i64 J) ∧ w'.cell? ⟨(ad2.add (i2 * 3)).block, (ad2.add (i2 * 3)).off + 1, none⟩ = some (.int .i64 K) ∧ w'.cell? ⟨(ad2.add (i2 * 3)).block, (ad2.add (i2 * 3)).off + 2, none⟩ = some (.int .i64 T) ∧ w'.cell? (ad2.add (p.toNat * 3)) = some (.int .i64 (rd_T32 M p).f0) ∧ w'.cell? ⟨(ad2.add (p.toNat * 3)).block, (ad2.add (p.toNat * 3)).off + 1, none⟩ = some (.int .i64 (rd_T32 M p).f1) ∧ w'.cell? ⟨(ad2.add (p.toNat * 3)).block, (ad2.add (p.toNat * 3)).off + 2, none⟩ = some (.int .i64 (rd_T32 M p).f2)) (first | go_keep | exact kp.out _ hbD.out | exact kp.out _ (below_step hbD.out hb9) | exact kp.out _ (below_step (below_step hbD.out hb9) hb10)) ((first | (go_at_call 16; refine (mod_calls _ K _ hat1.out.symm).mono ?_; rintro e w9 ⟨rfl, hb9⟩) | (go_at_call 18; refine (hLess.out _).mono ?_; rintro e w10 ⟨rfl, hb10⟩)))
            have hbE := below_step (below_step hbD.out hb9) hb10
            go_wp2_with (fail)
            go_meet
            exact ⟨rfl, hbE⟩
        case rest =>
          obtain ⟨rfl, hbE⟩ := hcut
          go_wp2
          go_roundg (M.length - (i2 + 1))
          case measure => omega
          case rel => exact ⟨i2 + 1, _, _, by omega, Nat.le_refl _, by go_num, ⟨ht.out.2⟩, ⟨pw_own_below HO8.out hbE⟩, ⟨Kd.R_below HR8.out hbE⟩, hq8.out.step hbE, ⟨HF8.out.trans (Fr.of_b0 hbE)⟩⟩
      · have e0 : L2 = [] := List.eq_nil_of_length_eq_zero (by rw [h2.out.len]; omega)
        subst e0
        have hj2 : ¬ (i2 : Int) < (M.length : Int) := by omega
        go_wp2_with (first
          | (go_at_call 10; refine (empty_I hq4).mono ?_; rintro e w7 ⟨rfl, hq7, f7⟩; have HF7 := Aside0.mk (HF4.out.trans f7.b0); replace hq7 := Aside0.mk hq7; clear hq4 HF4)
          | (go_at_call 11; refine (len_I (hq7.out.step (below_alloc (Below.refl _ _) _)) 0 rfl).mono ?_; rintro e w8 ⟨rfl, hq8, f8⟩; replace hq8 := Aside0.mk hq8; clear hq7)
          | (go_at_call 14; refine (wakes_calls _).mono ?_; rintro e w9 ⟨rfl, hb9⟩))
        go_ret
        exact ⟨rfl, (((HF7.out.trans (Fr.of_b0 (below_alloc (Below.refl _ _) _))).trans f8.b0).trans (Fr.of_b0 hb9)).below (Nat.le_refl _) (fun k h => h)⟩
end Go.Proofs.Ytgffcbhkkjigfaa.Ln
