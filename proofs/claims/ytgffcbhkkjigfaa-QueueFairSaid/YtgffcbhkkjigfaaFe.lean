/- feed.on as a call. Conditions: the feed and its queue lie in memory as told. -/
import Derived.Test.YtgffcbhkkjigfaaFa
namespace Go.Proofs.Ytgffcbhkkjigfaa.Ln
open Go.RowKit Go.Proofs.Ytgffcbhkkjigfaa.PBase Go.Proofs.Ytgffcbhkkjigfaa.Cat Go.Proofs.Ytgffcbhkkjigfaa.Heap Go.Proofs.YtgffcbhkkjigfaaW.PrintWords Go.Proofs.YtgffcbhkkjigfaaW.PrintLast Go.Proofs.YtgffcbhkkjigfaaW.PrintMore
set_option linter.unusedVariables false
/-- A feed and its queue in memory. -/
structure FM (Wb : World) (G B : Nat) (A : Option Addr) (c : Nat) (l : List S32) (ag rm ct : Int) (w : World) (k id : Int) (L : List S32) : Prop where
  q : QI Wb.heap.size (fun k => k = G) w B ag rm ct L
  g : w.heap[G]? = some (.cells #[.pointer (some ⟨B, 0, none⟩), .slice A l.length c, .int .i64 k, .int .i64 id, .int .i64 rm] 29 (0, 0))
  fr : Fr (fun k => Wb.heap.size ≤ k) Wb w
  gb : Wb.heap.size ≤ G
section
variable {Wb : World} {G B : Nat} {A : Option Addr} {c : Nat} {l : List S32} {ag rm ct : Int} {w w' : World} {k id : Int} {L : List S32}
theorem FM.step (h : FM Wb G B A c l ag rm ct w k id L) (hb : Below w.heap.size w w') : FM Wb G B A c l ag rm ct w' k id L :=
  ⟨h.q.step hb, blk_below h.g hb, h.fr.trans (Fr.of_b0 hb), h.gb⟩
theorem FM.call {ct1 : Int} {L1 : List S32} (h : FM Wb G B A c l ag rm ct w k id L) (hq : QI Wb.heap.size (fun k => k = G) w' B ag rm ct1 L1) (hf : Fr (KX Wb.heap.size (fun k => k = G)) w w') : FM Wb G B A c l ag rm ct1 w' k id L1 :=
  ⟨hq, (hf.blk G (blk_lt h.g) (fun e => e.2 rfl)).trans h.g, h.fr.trans hf.b0, h.gb⟩
theorem FM.setk (h : FM Wb G B A c l ag rm ct w k id L) (k1 : Int) : FM Wb G B A c l ag rm ct (w.setCell ⟨G, 2, none⟩ (.int .i64 k1)) k1 id L :=
  ⟨h.q.keep (Fr.set w G 2 _), blk_set h.g 2 _, h.fr.trans ((Fr.set w G 2 _).weak (fun k e => e ▸ h.gb)), h.gb⟩
theorem FM.seti (h : FM Wb G B A c l ag rm ct w k id L) (i1 : Int) : FM Wb G B A c l ag rm ct (w.setCell ⟨G, 3, none⟩ (.int .i64 i1)) k i1 L :=
  ⟨h.q.keep (Fr.set w G 3 _), blk_set h.g 3 _, h.fr.trans ((Fr.set w G 3 _).weak (fun k e => e ▸ h.gb)), h.gb⟩
end
theorem put_any {Wb : World} {G B : Nat} {A : Option Addr} {c : Nat} {l : List S32} {ag rm ct : Int} {w : World} {k id id0 : Int} {L L0 : List S32} (h : FM Wb G B A c l ag rm ct w k (id + 1) L) (hJ : FJ ag rm id L) (hC : Came ct id0 id L0 L) (h1 : 1 ≤ id) (hl : (L.length : Int) < rm) (hct : 0 ≤ ct ∧ ct ≤ 1000000) (hl9 : L.length ≤ 90000) {who cl : Int} (hw : who = id + 1 ∨ who = -(id + 1)) (hcl : 0 ≤ cl ∧ cl < 8) :
    Calls Try.prog 12 #[.pointer (some ⟨B, 0, none⟩), .int .i64 who, .int .i64 cl] w fun e w' => e = .returned (.int .i64 0) ∧ Aside0 (∃ L', L'.length = L.length + 1 ∧ FJ ag rm (id + 1) L' ∧ Came ct id0 (id + 1) L0 L' ∧ FM Wb G B A c l ag rm ct w' k (id + 1) L') := by
  obtain ⟨h2, h3, h4, h5⟩ := FJ.put hJ hC h1 hl hct hw hcl
  refine (put_I h.q who cl hl9 0 _ h2 rfl).mono ?_
  rintro e w' ⟨rfl, hq, hf⟩
  exact ⟨rfl, ⟨_, h5, h3, h4, h.call hq hf⟩⟩
theorem on_end {Wb : World} {G B : Nat} {A : Option Addr} {c : Nat} {l : List S32} {ag rm ct : Int} {w : World} {k : Nat} {id id0 : Int} {L L0 : List S32} (hk : k ≤ l.length) (hJ : FJ ag rm id L) (hC : Came ct id0 id L0 L) (hM : FM Wb G B A c l ag rm ct w k id L) :
    Aside0 (∃ (k : Nat) (id : Int) (L : List S32), k ≤ l.length ∧ FJ ag rm id L ∧ Came ct id0 id L0 L ∧ FM Wb G B A c l ag rm ct w k id L) := ⟨⟨k, id, L, hk, hJ, hC, hM⟩⟩
set_option maxHeartbeats 4000000 in
set_option maxRecDepth 100000 in
theorem on_calls {Wb : World} {G B : Nat} {A : Option Addr} {c : Nat} {l : List S32} {ag rm ct : Int} {W : World} {k0 : Nat} {id0 : Int} {L0 : List S32} (h : FM Wb G B A c l ag rm ct W k0 id0 L0) (hr : Kd.C k32 Wb A l.length l) (hk0 : k0 ≤ l.length) (hJ : FJ ag rm id0 L0) (hid : 1 ≤ id0 ∧ id0 ≤ 100000) (hrm : 0 ≤ rm ∧ rm ≤ 1000) (hct : 0 ≤ ct ∧ ct ≤ 1000000) :
    Calls Try.prog 9 #[.pointer (some ⟨G, 0, none⟩)] W fun e w' => e = .returned (.bool true) ∧ Aside0 (∃ (k : Nat) (id : Int) (L : List S32), k ≤ l.length ∧ FJ ag rm id L ∧ Came ct id0 id L0 L ∧ FM Wb G B A c l ag rm ct w' k id L) := by
  have HR := Aside0.mk hr
  have HJ := Aside0.mk hJ
  have HM := Aside0.mk h
  have hK : l.length ≤ 9223372036854775807 := hr.2.1
  clear hr hJ h
  go_enter Try.func9, Try.ntmps9
  go_wp2
  go_loopg [2] rm.toNat (fun gg v2 wr => ∃ (k : Nat) (id : Int) (L : List S32), v2 = .bool false ∧ (rm - L.length).toNat ≤ gg ∧ k ≤ l.length ∧ 1 ≤ id ∧ id ≤ 101000 ∧ Aside0 (FJ ag rm id L) ∧ Aside0 (Came ct id0 id L0 L) ∧ Aside0 (FM Wb G B A c l ag rm ct wr k id L))
  case atStart => exact ⟨k0, id0, L0, rfl, by omega, hk0, hid.1, by omega, HJ, ⟨Came.refl _ _ _⟩, HM⟩
  case round =>
    obtain ⟨k, id, L, rfl, hgg, hkl, hi1, hi2, hJ, hC, hM⟩ := hrel
    clear HJ HM
    have hbD := Aside0.mk (below_drew1 (Below.refl wr.heap.size wr))
    have c0 : wr.cell? ⟨G, 0, none⟩ = some (.pointer (some ⟨B, 0, none⟩)) := (blk_cell hM.out.g 0).trans rfl
    have c4 : wr.cell? ⟨G, 4, none⟩ = some (.int .i64 rm) := (blk_cell hM.out.g 4).trans rfl
    have kp : Aside0 (∀ w', Fr (KX Wb.heap.size (fun k => k = G)) wr w' → w'.cell? ⟨G, 0, none⟩ = some (.pointer (some ⟨B, 0, none⟩)) ∧ w'.cell? ⟨G, 4, none⟩ = some (.int .i64 rm)) := ⟨fun w' hf => ⟨hf.cell c0 (fun e => e.2 rfl), hf.cell c4 (fun e => e.2 rfl)⟩⟩
    go_wp2
    go_region_held3 (fun w' => w'.cell? ⟨G, 0, none⟩ = some (.pointer (some ⟨B, 0, none⟩)) ∧ w'.cell? ⟨G, 4, none⟩ = some (.int .i64 rm)) (first | go_keep | exact kp.out _ ((Fr.of_b hbD.out).trans f3)) ((go_at_call 11; refine (len_I (hM.out.q.step hbD.out) _ rfl).mono ?_; rintro e w3 ⟨rfl, hq3, f3⟩))
    have hM3 := Aside0.mk ((hM.out.step hbD.out).call hq3 f3)
    clear hq3 hbD c0 c4 kp hM f3
    have hl9 : L.length ≤ 90000 := by have := hJ.out.le; omega
    by_cases hlt : (L.length : Int) < rm
    · by_cases hkk : k < l.length
      · have hk2 : (k : Int) < (l.length : Int) := by omega
        have c1 : w3.cell? ⟨G, 1, none⟩ = some (.slice A l.length c) := (blk_cell hM3.out.g 1).trans rfl
        have c2 : w3.cell? ⟨G, 2, none⟩ = some (.int .i64 k) := (blk_cell hM3.out.g 2).trans rfl
        go_wp2
        go_region_held3 (fun w' => w'.cell? ⟨G, 1, none⟩ = some (.slice A l.length c) ∧ w'.cell? ⟨G, 2, none⟩ = some (.int .i64 k)) (go_keep) (fail)
        go_wp2
        have hM4 := Aside0.mk (hM3.out.step (below_drew1 (Below.refl _ _)))
        generalize w3.drew = w4 at hM4 ⊢
        clear hM3 c1 c2
        obtain ⟨ad, e1, hx0, hx1, hx2⟩ := at_T32 HR.out (k : Int) (by omega) hk2
        subst e1
        rw [Int.toNat_natCast] at hx0 hx1 hx2
        replace hx0 := hM4.out.fr.rd hx0
        replace hx1 := hM4.out.fr.rd hx1
        replace hx2 := hM4.out.fr.rd hx2
        have c1 : w4.cell? ⟨G, 1, none⟩ = some (.slice (some ad) l.length c) := (blk_cell hM4.out.g 1).trans rfl
        have c2 : w4.cell? ⟨G, 2, none⟩ = some (.int .i64 k) := (blk_cell hM4.out.g 2).trans rfl
        have p1 := eq_true (show 0 ≤ (k : Int) by omega)
        have p2 := eq_true hk2
        go_region_held3 (fun w' => w'.cell? ⟨G, 1, none⟩ = some (.slice (some ad) l.length c) ∧ w'.cell? ⟨G, 2, none⟩ = some (.int .i64 k) ∧ w'.cell? (ad.add (k * 3)) = some (.int .i64 (rd_T32 l k).f0) ∧ w'.cell? ⟨(ad.add (k * 3)).block, (ad.add (k * 3)).off + 1, none⟩ = some (.int .i64 (rd_T32 l k).f1) ∧ w'.cell? ⟨(ad.add (k * 3)).block, (ad.add (k * 3)).off + 2, none⟩ = some (.int .i64 (rd_T32 l k).f2)) (go_keep) (fail)
        have hb5 : Below w4.heap.size w4 ((w4.alloc (.cells #[.int .i64 (rd_T32 l k).f0, .int .i64 (rd_T32 l k).f1, .int .i64 (rd_T32 l k).f2] 42)).drew) := below_drew1 (below_alloc (Below.refl _ _) _)
        have hM5 := Aside0.mk (hM4.out.step hb5)
        have hy0 : (w4.alloc (.cells #[.int .i64 (rd_T32 l k).f0, .int .i64 (rd_T32 l k).f1, .int .i64 (rd_T32 l k).f2] 42)).drew.cell? ⟨w4.heap.size, 0, none⟩ = some (.int .i64 (rd_T32 l k).f0) := by simp
        have hy2 : (w4.alloc (.cells #[.int .i64 (rd_T32 l k).f0, .int .i64 (rd_T32 l k).f1, .int .i64 (rd_T32 l k).f2] 42)).drew.cell? ⟨w4.heap.size, 2, none⟩ = some (.int .i64 (rd_T32 l k).f2) := by simp
        have hne : w4.heap.size ≠ G := by have := blk_lt hM4.out.g; omega
        have hne2 : G ≠ w4.heap.size := hne.symm
        generalize (w4.alloc (.cells #[.int .i64 (rd_T32 l k).f0, .int .i64 (rd_T32 l k).f1, .int .i64 (rd_T32 l k).f2] 42)).drew = w5 at hM5 hy0 hy2 ⊢
        generalize w4.heap.size = g4 at hy0 hy2 hne hne2 ⊢
        clear hM4 hb5 hx0 hx1 hx2 c1 c2
        have c2 : w5.cell? ⟨G, 2, none⟩ = some (.int .i64 k) := (blk_cell hM5.out.g 2).trans rfl
        have c3 : w5.cell? ⟨G, 3, none⟩ = some (.int .i64 id) := (blk_cell hM5.out.g 3).trans rfl
        have c0 : w5.cell? ⟨G, 0, none⟩ = some (.pointer (some ⟨B, 0, none⟩)) := (blk_cell hM5.out.g 0).trans rfl
        have z2 : w5.frozen? ⟨G, 2, none⟩ = false := blk_frozen hM5.out.g 2
        have z3 : w5.frozen? ⟨G, 3, none⟩ = false := blk_frozen hM5.out.g 3
        have hK2 : (l.length : Int) ≤ 9223372036854775807 := by omega
        by_cases hd : Int.tmod (rd_T32 l k).f0 5 = 0
        · go_wp2
          go_ret
          refine ⟨rfl, ?_⟩
          exact on_end (k := k + 1) hkk hJ.out hC.out (hM5.out.setk _)
        · obtain ⟨cl, hcl⟩ : ∃ cl, md (rd_T32 l k).f2 = cl := ⟨_, rfl⟩
          have hcl8 := md_in (rd_T32 l k).f2
          rw [hcl] at hcl8
          replace hcl8 := Aside0.mk hcl8
          go_wp2_with (first
            | (go_at_call 16; refine (mod_calls _ cl _ hcl).mono ?_; rintro e w6 ⟨rfl, hb6⟩; have hM6 := Aside0.mk ((hM5.out.setk (k + 1)).step hb6); clear c0 c2 c3 z2 z3 hM5 hb6; have c0 : w6.cell? ⟨G, 0, none⟩ = some (.pointer (some ⟨B, 0, none⟩)) := (blk_cell hM6.out.g 0).trans rfl; have c3 : w6.cell? ⟨G, 3, none⟩ = some (.int .i64 id) := (blk_cell hM6.out.g 3).trans rfl; have z3 : w6.frozen? ⟨G, 3, none⟩ = false := blk_frozen hM6.out.g 3)
            | (go_at_call 12; refine (put_any (hM6.out.seti (id + 1)) hJ.out hC.out hi1 hlt hct hl9 ?_ hcl8.out).mono ?_; (first | exact .inl rfl | exact .inr rfl); rintro e w7 ⟨rfl, hM7⟩))
          all_goals
            go_roundg ((rm - ((L.length + 1 : Nat) : Int)).toNat)
            case measure => omega
            case rel =>
              obtain ⟨L7, hL7, hJ7, hC7, hM7⟩ := hM7.out
              exact ⟨k + 1, id + 1, L7, rfl, by rw [hL7]; exact Nat.le_refl _, hkk, by omega, by have := hC7.le hJ7; omega, ⟨hJ7⟩, ⟨hC7⟩, ⟨hM7⟩⟩
      · have hk2 : ¬ (k : Int) < (l.length : Int) := by omega
        have c1 : w3.cell? ⟨G, 1, none⟩ = some (.slice A l.length c) := (blk_cell hM3.out.g 1).trans rfl
        have c2 : w3.cell? ⟨G, 2, none⟩ = some (.int .i64 k) := (blk_cell hM3.out.g 2).trans rfl
        go_wp2
        go_region_held3 (fun w' => w'.cell? ⟨G, 1, none⟩ = some (.slice A l.length c) ∧ w'.cell? ⟨G, 2, none⟩ = some (.int .i64 k)) (go_keep) (fail)
        have hM5 := Aside0.mk (hM3.out.step (below_drew1 (Below.refl _ _)))
        generalize w3.drew = w5 at hM5 ⊢
        clear hM3 c1 c2
        have c0 : w5.cell? ⟨G, 0, none⟩ = some (.pointer (some ⟨B, 0, none⟩)) := (blk_cell hM5.out.g 0).trans rfl
        have c3 : w5.cell? ⟨G, 3, none⟩ = some (.int .i64 id) := (blk_cell hM5.out.g 3).trans rfl
        have z3 : w5.frozen? ⟨G, 3, none⟩ = false := blk_frozen hM5.out.g 3
        go_wp2_with (first
          | (go_at_call 12; refine (put_any (hM5.out.seti (id + 1)) hJ.out hC.out hi1 hlt hct hl9 ?_ (by omega)).mono ?_; (first | exact .inl rfl | exact .inr rfl); rintro e w7 ⟨rfl, hM7⟩))
        all_goals
          go_roundg ((rm - ((L.length + 1 : Nat) : Int)).toNat)
          case measure => omega
          case rel =>
            obtain ⟨L7, hL7, hJ7, hC7, hM7⟩ := hM7.out
            exact ⟨k, id + 1, L7, rfl, by rw [hL7]; exact Nat.le_refl _, hkl, by omega, by have := hC7.le hJ7; omega, ⟨hJ7⟩, ⟨hC7⟩, ⟨hM7⟩⟩
    · go_wp2
      go_ret
      refine ⟨rfl, ?_⟩
      first | exact on_end hkl hJ.out hC.out hM3.out | exact ⟨⟨k, hkl, id, L, hJ.out, hC.out, hM3.out⟩⟩
end Go.Proofs.Ytgffcbhkkjigfaa.Ln
