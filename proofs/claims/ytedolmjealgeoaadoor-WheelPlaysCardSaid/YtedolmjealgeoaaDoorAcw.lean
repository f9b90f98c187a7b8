/- Layer 5's acts, read as elements. Conditions: those of the rows. -/
import Derived.Test.YtedolmjealgeoaaDoorOpenKd
import Derived.Test.YtedolmjealgeoaaDoorGd
set_option linter.unusedVariables false
namespace Go.Proofs.YtedolmjealgeoaaDoor.Rg
open Go.RowKit Go.Maps Go.Proofs.YtedolmjealgeoaaDoor.Open Go.Proofs.YtedolmjealgeoaaDoor.PBase Go.Proofs.YtedolmjealgeoaaDoor.Cat Go.Proofs.YtedolmjealgeoaaDoorW.PrintWords Go.Proofs.YtedolmjealgeoaaDoorW.PrintLast Go.Proofs.YtedolmjealgeoaaDoorW.PrintMore
structure S33 where
  f0 : Int
  f1 : Int
  f2 : S31
def z33 : S33 := ⟨0, 0, z31⟩
def k33 : Kd S33 := Kd.iso (Kd.pair (Kd.int .i64) (Kd.pair (Kd.int .i64) k31)) (fun x : S33 => (x.f0, x.f1, x.f2))
theorem k33_open {w : World} {x : S33} {cs : List Value} (h : k33.K w x cs) : cs = [.int .i64 x.f0, .int .i64 x.f1, .int .i64 x.f2.f0, .int .u64 x.f2.f1] := by
  obtain ⟨_, _, rfl, rfl, _, _, rfl, rfl, s1⟩ := h
  obtain rfl := k31_open s1
  exact rfl
theorem k33_mk (w : World) (x : S33) : k33.K w x [.int .i64 x.f0, .int .i64 x.f1, .int .i64 x.f2.f0, .int .u64 x.f2.f1] := ⟨[.int .i64 x.f0], [.int .i64 x.f1, .int .i64 x.f2.f0, .int .u64 x.f2.f1], rfl, rfl, [.int .i64 x.f1], [.int .i64 x.f2.f0, .int .u64 x.f2.f1], rfl, rfl, k31_mk w x.f2⟩
def rd_T33 (xs : List S33) (i : Int) : S33 := xs.getD i.toNat z33
theorem at_T33 {w : World} {A : Option Addr} {n : Nat} {xs : List S33} (h : Kd.C k33 w A n xs) (i : Int) (h0 : 0 ≤ i) (h1 : i < n) : ∃ ad, A = some ad ∧ w.cell? (ad.add (i.toNat * 4)) = some (.int .i64 (rd_T33 xs i).f0) ∧ w.cell? ⟨(ad.add (i.toNat * 4)).block, (ad.add (i.toNat * 4)).off + 1, none⟩ = some (.int .i64 (rd_T33 xs i).f1) ∧ w.cell? ⟨(ad.add (i.toNat * 4)).block, (ad.add (i.toNat * 4)).off + 2, none⟩ = some (.int .i64 (rd_T33 xs i).f2.f0) ∧ w.cell? ⟨(ad.add (i.toNat * 4)).block, (ad.add (i.toNat * 4)).off + 3, none⟩ = some (.int .u64 (rd_T33 xs i).f2.f1) := by
  obtain ⟨ad, c, e, _, hK, hc0⟩ := Kd.C_get h z33 i h0 h1
  have hc : ∀ j u, c[j]? = some u → w.cell? (ad.add (i.toNat * 4 + j)) = some u := hc0
  obtain rfl := k33_open hK
  exact ⟨ad, e, hc 0 _ rfl, by rw [← add_field _ _ 1 (by omega)]; exact hc 1 _ rfl, by rw [← add_field _ _ 2 (by omega)]; exact hc 2 _ rfl, by rw [← add_field _ _ 3 (by omega)]; exact hc 3 _ rfl⟩
def four (ns : List Int) : S33 := ⟨ns.headD 0, ns.tail.headD 0, ⟨ns.tail.tail.headD 0, ns.tail.tail.tail.headD 0⟩⟩
theorem four_K (W : World) (ns : List Int) (h : Fits [.i64, .i64, .i64, .u64] ns) : k33.K W (four ns) (ints [.i64, .i64, .i64, .u64] ns) := by
  obtain ⟨a, r, rfl, _, h⟩ := fits_cons h
  obtain ⟨b, r, rfl, _, h⟩ := fits_cons h
  obtain ⟨c, r, rfl, _, h⟩ := fits_cons h
  obtain ⟨d, r, rfl, _, h⟩ := fits_cons h
  obtain rfl := fits_nil h
  exact k33_mk W (four [a, b, c, d])
theorem act5_rows {W : World} {A : Option Addr} {l : List (List Int)} (h : RowsOf W [.i64, .i64, .i64, .u64] A l) (hm : l.length ≤ 9223372036854775807) : Kd.C k33 W A (l.map four).length (l.map four) := kd_rows (d := k33) four rfl (four_K W) h hm
/-- The numbers' ranges. -/
def A5ok (l : List S33) : Prop := ∀ x ∈ l, (Lit.int .i64 x.f1).wf = true ∧ (Lit.int .i64 x.f2.f0).wf = true ∧ (Lit.int .u64 x.f2.f1).wf = true
theorem act5_ok {W : World} {A : Option Addr} {l : List (List Int)} (h : RowsOf W [.i64, .i64, .i64, .u64] A l) : A5ok (l.map four) := by
  intro x hx
  obtain ⟨ns, hns, rfl⟩ := List.mem_map.1 hx
  have hf := h.2 ns hns
  obtain ⟨a, r, rfl, h0, hf⟩ := fits_cons hf
  obtain ⟨b, r, rfl, h1, hf⟩ := fits_cons hf
  obtain ⟨c, r, rfl, h2, hf⟩ := fits_cons hf
  obtain ⟨d, r, rfl, h3, hf⟩ := fits_cons hf
  exact ⟨h1, h2, h3⟩
theorem rd33 (l : List S33) (i : Nat) (h : i < l.length) : rd_T33 l (i : Int) = l[i] := by simp [rd_T33, h]
/-- A number modulo m, from 0 on. -/
def md (m x : Int) : Int := if Int.tmod x m < 0 then Int.tmod x m + m else Int.tmod x m
theorem tmod_in (m x : Int) (hm : 0 < m) : -m < Int.tmod x m ∧ Int.tmod x m < m := by
  have h1 := Int.tmod_lt_of_pos x hm
  have h2 := Int.tmod_lt_of_pos (-x) hm
  rw [Int.neg_tmod] at h2
  omega
theorem md_in (m x : Int) (hm : 0 < m) : 0 ≤ md m x ∧ md m x < m := by
  have := tmod_in m x hm
  unfold md
  split <;> omega
theorem md_is (m x : Int) (hm : 0 < m) (h1 : m ≤ 1000) : remontoirkeep_Mod.f x m = some (md m x) := by
  have h := tmod_in m x hm
  unfold remontoirkeep_Mod.f md
  generalize Int.tmod x m = r at h ⊢
  rw [if_neg (by omega)]
  by_cases c : r < 0
  · have e : wrap64 (r + m) = r + m := by unfold wrap64; omega
    rw [if_pos c, if_pos c, e]
  · rw [if_neg c, if_neg c]
theorem md_calls (m x n : Int) (W : World) (hm : 0 < m) (h1 : m ≤ 1000) (h : md m x = n) : Calls Tryd.prog 14 #[.int .i64 x, .int .i64 m] W fun e w' => e = .returned (.int .i64 n) ∧ Below W.heap.size W w' := by
  subst h
  refine (remontoirkeep_Mod.calls x m _ W (md_is m x hm h1)).mono ?_
  rintro e w' ⟨rfl, h⟩
  exact ⟨rfl, h.below⟩
end Go.Proofs.YtedolmjealgeoaaDoor.Rg
