/- The reference's Sort as a call. Conditions: the list reads. -/
import Derived.Test.YtboneknainlodaaCat
import Derived.Deep.RegionHeld3
namespace Go.Proofs.Ytboneknainlodaa.Giv
open Go.RowKit Go.Maps Go.Proofs.Ytboneknainlodaa.PBase Go.Proofs.Ytboneknainlodaa.Cat Go.Proofs.YtboneknainlodaaW.PrintWords Go.Proofs.YtboneknainlodaaW.PrintLast Go.Proofs.YtboneknainlodaaW.PrintMore
/-- Where a timer goes, from the k-th place back. -/
def back (d : S32) (out : List S32) : Nat → Nat
  | 0 => 0
  | k + 1 => if lt d (rd_T32 out k) = true then back d out k else k + 1
def ins (out : List S32) (d : S32) : List S32 := out.take (back d out out.length) ++ (d :: out.drop (back d out out.length))
theorem less_is (a b : S32) : remontoirref05_Less.f a.f0 a.f1 b.f0 b.f1 = some (lt a b) := by
  unfold remontoirref05_Less.f lt
  by_cases h1 : a.f1 < b.f1
  · rw [if_pos h1, decide_eq_true h1]; rfl
  · rw [if_neg h1, decide_eq_false h1]
    by_cases h2 : a.f1 = b.f1
    · rw [if_pos h2]; simp [h2]
    · rw [if_neg h2]; simp [h2]
theorem ins_len (out : List S32) (d : S32) : (ins out d).length = out.length + 1 := by
  unfold ins
  have h : back d out out.length ≤ out.length := by
    generalize out.length = n
    induction n with
    | zero => exact Nat.le_refl _
    | succ n ih => unfold back; split <;> omega
  simp; omega
theorem fold_step {l out : List S32} (h : out.length < l.length) : (l.drop out.length).foldl ins out = (l.drop (ins out (rd_T32 l out.length)).length).foldl ins (ins out (rd_T32 l out.length)) := by
  rw [ins_len, List.drop_eq_getElem_cons h]
  unfold rd_T32
  rw [Int.toNat_natCast, List.getD_eq_getElem?_getD, List.getElem?_eq_getElem h]
  rfl
def isort (l : List S32) : List S32 := l.foldl ins []
set_option maxHeartbeats 4000000 in
set_option maxRecDepth 100000 in
theorem rsort_walk (A0 : Option Addr) (c0 : Nat) (l : List S32) (w : World) (hr0 : Kd.C k32 w A0 l.length l) (hlen : l.length ≤ 1000000) :
    Calls Try.prog 19 #[.slice A0 l.length c0] w fun e w' => ∃ v0_, e = .returned v0_ ∧ Kd.R k32 32 w' w.heap.size (fun _ => True) v0_ (isort l) ∧ Below w.heap.size w w' := by
  have HR0 := Aside0.mk hr0
  clear hr0
  go_enter Try.func19, Try.ntmps19
  go_wp2
  go_loopg [3, 4] l.length (fun gg v3 v4 wr => ∃ (i : Nat) (out : List S32), i ≤ l.length ∧ l.length - i ≤ gg ∧ v4 = .int .i64 i ∧ out.length = i ∧ Aside0 (Kd.R k32 32 wr w.heap.size (fun _ => True) v3 out) ∧ Aside0 (isort l = (l.drop i).foldl ins out) ∧ Below w.heap.size w wr)
  case atStart => exact ⟨0, [], Nat.zero_le _, by omega, rfl, rfl, ⟨Kd.R_nil _ _ _ _ _⟩, ⟨rfl⟩, Below.refl _ _⟩
  case round =>
    obtain ⟨i, out, hi, hg, rfl, hol, HO, HS, hb⟩ := hrel
    subst hol
    by_cases hlt : out.length < l.length
    · obtain ⟨A3, c3, rfl, hc3, HC3⟩ := Kd.R_reads HO.out
      have HC3 := Aside0.mk HC3
      have hlti : (out.length : Int) < (l.length : Int) := by omega
      obtain ⟨ad, e1, hx0, hx1⟩ := at_T32 (Kd.C_below HR0.out hb) (out.length : Int) (by omega) (by omega)
      cases e1
      rw [Int.toNat_natCast] at hx0 hx1
      go_wp2
      rename World => WO
      go_loopg [5] (out.length) (fun gg v5 wk => ∃ k : Nat, k ≤ out.length ∧ k ≤ gg ∧ v5 = .int .i64 k ∧ Aside0 (back (rd_T32 l out.length) out out.length = back (rd_T32 l out.length) out k) ∧ Below WO.heap.size WO wk)
      case atStart => exact ⟨out.length, Nat.le_refl _, by omega, rfl, ⟨rfl⟩, Below.refl _ _⟩
      case round =>
        obtain ⟨k, hki, hkg, rfl, HB2, hb2⟩ := hrel
        cases k with
        | zero =>
          go_wp2_with (fail)
          go_quiet (fail)
          go_wp2_with (fail)
          have hw0 := pw_below_drewN hb2 nq
          have hw1 := below_step hb hw0
          have HCW := Aside0.mk (Kd.C_below HC3.out hw0)
          generalize wr.drewN nq = W at hw1 HCW ⊢
          obtain ⟨kk, hkk⟩ : ∃ kk : Int, ((0 : Nat) : Int) = kk := ⟨_, rfl⟩
          have hback : back (rd_T32 l out.length) out out.length = kk.toNat := by rw [HB2.out, ← hkk]; rfl
          have hk0 : 0 ≤ kk := by omega
          have hki' : kk ≤ (out.length : Int) := by omega
          rw [hkk]
          clear hkk
          obtain ⟨adx, e2, hy0, hy1⟩ := at_T32 (Kd.C_below HR0.out hw1) (out.length : Int) (by omega) (by omega)
          cases e2
          rw [Int.toNat_natCast] at hy0 hy1
          have hkc : kk ≤ (c3 : Int) := by omega
          have q1 := cut_cap A3 out.length c3 kk hk0 hkc
          obtain ⟨i0, hi0, _, hsz0, _⟩ := info_parts info32
          have q2 := cut_from (P := Try.prog) 22 32 .i64 Try.underlying22 hi0 2 hsz0 A3 out.length c3 kk hk0 hki'
          obtain ⟨A4, hA4⟩ : ∃ A4, A4 = (if c3 = kk.toNat then A3 else A3.map (·.add (kk.toNat * 2))) := ⟨_, rfl⟩
          rw [← hA4] at q2
          have HCD : Aside0 (Kd.C k32 W A4 (out.length - kk.toNat) (out.drop kk.toNat)) := ⟨by rw [hA4]; have h := Kd.C_drop (m := kk.toNat) (c := c3) HCW.out (by omega) hc3; rw [List.length_drop] at h; exact h⟩
          clear hA4
          have HCT : Aside0 (Kd.C k32 W A3 kk.toNat (out.take kk.toNat)) := ⟨by have h := Kd.C_take (m := kk.toNat) HCW.out (by omega); rw [List.length_take, Nat.min_eq_left (by omega)] at h; exact h⟩
          clear hsz0 hi0
          have hbW : Below W.heap.size W ((W.alloc (Obj.cells #[Value.int IntKind.i64 (rd_T32 l ↑out.length).f0, Value.int IntKind.u64 (rd_T32 l ↑out.length).f1] 32)).drew) := below_drew1 (below_alloc (Below.refl _ _) _)
          have hadl : (ad.add (out.length * 2)).block < W.heap.size := World.block_lt_of_cell? W _ hy0
          have hadl' : (⟨(ad.add (out.length * 2)).block, (ad.add (out.length * 2)).off + 1, none⟩ : Addr).block < W.heap.size := hadl
          go_region_held3 (fun w' => w'.cell? (ad.add (out.length * 2)) = some (.int .i64 (rd_T32 l out.length).f0) ∧ w'.cell? ⟨(ad.add (out.length * 2)).block, (ad.add (out.length * 2)).off + 1, none⟩ = some (.int .u64 (rd_T32 l out.length).f1)) (first | go_keep | exact ⟨(hby.cell hadl).trans hy0, (hby.cell hadl').trans hy1⟩ | exact ⟨(hbx.cell hadl).trans hy0, (hbx.cell hadl').trans hy1⟩)
            (first
              | (refine step_rows (K := _) W.heap.size (by rfl) (.tmp 38) (.tmp 41) (by rfl) (.slice (some ⟨W.heap.size, 0, none⟩) 1 1) [rd_T32 l out.length] A4 (out.length - kk.toNat) (c3 - kk.toNat) (out.drop kk.toNat) (by rfl) (by rfl) (Kd.R_drew (R_lit1 W (rd_T32 l out.length))) (Kd.C_drew (Kd.C_alloc HCD.out _)) (by simp) (by simp; omega) ?_; intro v1 w1 HV1 hb1; have hbx := hbW.trans hb1)
              | (refine step_full (K := _) (by rfl) (.tmp 33) (.tmp 42) (by rfl) A3 kk.toNat (out.take kk.toNat) v1 ([rd_T32 l out.length] ++ out.drop kk.toNat) (by rfl) (by rfl) (Kd.C_below HCT.out hbx) HV1 (by simp) (by simp; omega) ?_; intro v2 w2 HV2 hb2'; have hby := below_step hbx hb2'))
          go_wp2
          go_roundg (l.length - (out.length + 1))
          case measure => omega
          case rel => exact ⟨out.length + 1, ins out (rd_T32 l out.length), by omega, Nat.le_refl _, by go_num, ins_len _ _, ⟨by unfold ins; rw [hback]; exact Kd.R_lower HV2 (Nat.le_trans hw1.size hbx.size)⟩, ⟨by rw [HS.out, fold_step hlt, ins_len]⟩, below_step hw1 hby⟩
        | succ k =>
          obtain ⟨kk, hkk⟩ : ∃ kk : Int, ((k + 1 : Nat) : Int) = kk := ⟨_, rfl⟩
          rw [hkk]
          have hk0 : 0 ≤ kk := by omega
          have hki' : kk ≤ (out.length : Int) := by omega
          have hd : decide (0 < kk) = true := decide_eq_true (by omega)
          obtain ⟨j, hj⟩ : ∃ j : Int, kk - 1 = j := ⟨_, rfl⟩
          have hwj : IntKind.i64.wrap (kk - 1) = j := by rw [i64_w]; unfold wrap64; omega
          have hwj2 : IntKind.i64.wrap j = j := by rw [i64_w]; unfold wrap64; omega
          have hjk : j = (k : Int) := by omega
          have HJ := Aside0.mk hjk
          have HKK := Aside0.mk hkk
          have pj := eq_true (show 0 ≤ j by omega)
          have qj := eq_true (show j < (out.length : Int) by omega)
          obtain ⟨ad', e3, hp0, hp1⟩ := at_T32 (Kd.C_below HC3.out hb2) j (by omega) (by omega)
          subst e3
          have hz0 := (hb2.cell (World.block_lt_of_cell? WO _ hx0)).trans hx0
          have hz1 := (hb2.cell (World.block_lt_of_cell? WO _ hx1)).trans hx1
          clear hjk hkk hj
          go_wp2_with (fail)
          go_still_tail 12, (by kernel_rfl)
          change wpList _ _ _ _ _ wr.drew
          have hls := less_is (rd_T32 l out.length) (rd_T32 out j)
          have hb3 : Below WO.heap.size WO wr.drew := pw_below_drewN hb2 1
          generalize wr.drew = W6 at hb3 ⊢
          cases hr : lt (rd_T32 l out.length) (rd_T32 out j) with
          | true =>
            rw [hr] at hls
            go_wp2_with (go_at_call 12; refine (remontoirref05_Less.calls _ _ _ _ true _ hls).mono ?_; rintro e w7 ⟨rfl, hb7⟩)
            go_roundg k
            case measure => omega
            case rel => exact ⟨k, by omega, by omega, by rw [HJ.out], ⟨by rw [HB2.out, back, if_pos (by rw [← HJ.out]; exact hr)]⟩, below_step hb3 hb7⟩
          | false =>
            rw [hr] at hls
            go_wp2_with (go_at_call 12; refine (remontoirref05_Less.calls _ _ _ _ false _ hls).mono ?_; rintro e w7 ⟨rfl, hb7⟩)
            have hw0 := below_step hb3 hb7
            have hw1 := below_step hb hw0
            have HCW := Aside0.mk (Kd.C_below HC3.out hw0)
            have hback : back (rd_T32 l out.length) out out.length = kk.toNat := by rw [HB2.out, back, if_neg (by rw [← HJ.out, hr]; decide), ← HKK.out]; rfl
            obtain ⟨W, hWW⟩ : ∃ W, W = w7 := ⟨_, rfl⟩
            subst hWW
            obtain ⟨adx, e2, hy0, hy1⟩ := at_T32 (Kd.C_below HR0.out hw1) (out.length : Int) (by omega) (by omega)
            cases e2
            rw [Int.toNat_natCast] at hy0 hy1
            have hkc : kk ≤ (c3 : Int) := by omega
            have q1 := cut_cap (some ad') out.length c3 kk hk0 hkc
            obtain ⟨i0, hi0, _, hsz0, _⟩ := info_parts info32
            have q2 := cut_from (P := Try.prog) 22 32 .i64 Try.underlying22 hi0 2 hsz0 (some ad') out.length c3 kk hk0 hki'
            obtain ⟨A4, hA4⟩ : ∃ A4, A4 = (if c3 = kk.toNat then (some ad') else (some ad').map (·.add (kk.toNat * 2))) := ⟨_, rfl⟩
            rw [← hA4] at q2
            have HCD : Aside0 (Kd.C k32 W A4 (out.length - kk.toNat) (out.drop kk.toNat)) := ⟨by rw [hA4]; have h := Kd.C_drop (m := kk.toNat) (c := c3) HCW.out (by omega) hc3; rw [List.length_drop] at h; exact h⟩
            clear hA4
            have HCT : Aside0 (Kd.C k32 W (some ad') kk.toNat (out.take kk.toNat)) := ⟨by have h := Kd.C_take (m := kk.toNat) HCW.out (by omega); rw [List.length_take, Nat.min_eq_left (by omega)] at h; exact h⟩
            clear hsz0 hi0
            have hbW : Below W.heap.size W ((W.alloc (Obj.cells #[Value.int IntKind.i64 (rd_T32 l ↑out.length).f0, Value.int IntKind.u64 (rd_T32 l ↑out.length).f1] 32)).drew) := below_drew1 (below_alloc (Below.refl _ _) _)
            have hadl : (ad.add (out.length * 2)).block < W.heap.size := World.block_lt_of_cell? W _ hy0
            have hadl' : (⟨(ad.add (out.length * 2)).block, (ad.add (out.length * 2)).off + 1, none⟩ : Addr).block < W.heap.size := hadl
            go_region_held3 (fun w' => w'.cell? (ad.add (out.length * 2)) = some (.int .i64 (rd_T32 l out.length).f0) ∧ w'.cell? ⟨(ad.add (out.length * 2)).block, (ad.add (out.length * 2)).off + 1, none⟩ = some (.int .u64 (rd_T32 l out.length).f1)) (first | go_keep | exact ⟨(hby.cell hadl).trans hy0, (hby.cell hadl').trans hy1⟩ | exact ⟨(hbx.cell hadl).trans hy0, (hbx.cell hadl').trans hy1⟩)
              (first
                | (refine step_rows (K := _) W.heap.size (by rfl) (.tmp 38) (.tmp 41) (by rfl) (.slice (some ⟨W.heap.size, 0, none⟩) 1 1) [rd_T32 l out.length] A4 (out.length - kk.toNat) (c3 - kk.toNat) (out.drop kk.toNat) (by rfl) (by rfl) (Kd.R_drew (R_lit1 W (rd_T32 l out.length))) (Kd.C_drew (Kd.C_alloc HCD.out _)) (by simp) (by simp; omega) ?_; intro v1 w1 HV1 hb1; have hbx := hbW.trans hb1)
                | (refine step_full (K := _) (by rfl) (.tmp 33) (.tmp 42) (by rfl) (some ad') kk.toNat (out.take kk.toNat) v1 ([rd_T32 l out.length] ++ out.drop kk.toNat) (by rfl) (by rfl) (Kd.C_below HCT.out hbx) HV1 (by simp) (by simp; omega) ?_; intro v2 w2 HV2 hb2'; have hby := below_step hbx hb2'))
            go_wp2
            go_roundg (l.length - (out.length + 1))
            case measure => omega
            case rel => exact ⟨out.length + 1, ins out (rd_T32 l out.length), by omega, Nat.le_refl _, by go_num, ins_len _ _, ⟨by unfold ins; rw [hback]; exact Kd.R_lower HV2 (Nat.le_trans hw1.size hbx.size)⟩, ⟨by rw [HS.out, fold_step hlt, ins_len]⟩, below_step hw1 hby⟩
    · have hle : out.length = l.length := by omega
      have hlti : ¬ (out.length : Int) < (l.length : Int) := by omega
      go_wp2_with (fail)
      go_ret
      exact ⟨_, rfl, by rw [HS.out, List.drop_eq_nil_of_le (by omega)]; exact HO.out, hb⟩
def remontoirref05_Sort.f (l : List S32) : Option (List S32) := if l.length ≤ 1000000 then some (isort l) else none
set_option linter.unusedVariables false
theorem remontoirref05_Sort.calls (A0 : Option Addr) (c0 : Nat) (l0 : List S32) (r : List S32) (w : World) (hr0 : Kd.C k32 w A0 l0.length l0) (hc0 : l0.length ≤ c0) (h : remontoirref05_Sort.f l0 = some r) (hT0 : TabOk w) :
    Calls Try.prog 19 #[.slice A0 l0.length c0] w fun e w' => ∃ v0_, e = .returned v0_ ∧ Kd.R k32 32 w' w.heap.size (fun _ => True) v0_ r ∧ Below w.heap.size w w' := by
  unfold remontoirref05_Sort.f at h
  by_cases h1 : l0.length ≤ 1000000
  · rw [if_pos h1] at h
    obtain rfl := Option.some.inj h
    exact rsort_walk A0 c0 l0 w hr0 h1
  · rw [if_neg h1] at h; cases h
end Go.Proofs.Ytboneknainlodaa.Giv
