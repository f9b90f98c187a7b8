/- JobsOften, the plain law; rows of Act. Conditions: none. -/
import Derived.Test.YtfkebbkfmchnaaaRp
set_option linter.unusedVariables false
namespace Go.Proofs.Ytfkebbkfmchnaaa.Bk
open Go.RowKit Go.Proofs.Ytfkebbkfmchnaaa.PBase Go.Proofs.Ytfkebbkfmchnaaa.Heap Go.Proofs.Ytfkebbkfmchnaaa.Ln Go.Proofs.Ytfkebbkfmchnaaa.Lst Go.Proofs.Ytfkebbkfmchnaaa.Mq Go.Proofs.YtfkebbkfmchnaaaW.PrintWords Go.Proofs.YtfkebbkfmchnaaaW.PrintLast Go.Proofs.YtfkebbkfmchnaaaW.PrintMore
/-- Something that is done. -/
structure S51 where
  f0 : Int
  f1 : Int
  f2 : Int
  f3 : Int
def z51 : S51 := ⟨0, 0, 0, 0⟩
def k51 : Kd S51 := Kd.iso (Kd.pair (Kd.int .i64) (Kd.pair (Kd.int .i64) (Kd.pair (Kd.int .i64) (Kd.int .u64)))) (fun x : S51 => (x.f0, x.f1, x.f2, x.f3))
theorem k51_open {w : World} {x : S51} {cs : List Value} (h : k51.K w x cs) : cs = [.int .i64 x.f0, .int .i64 x.f1, .int .i64 x.f2, .int .u64 x.f3] := by
  obtain ⟨_, _, rfl, rfl, ⟨_, _, rfl, rfl, ⟨_, _, rfl, rfl, rfl⟩⟩⟩ := h
  exact rfl
theorem k51_mk (w : World) (x : S51) : k51.K w x [.int .i64 x.f0, .int .i64 x.f1, .int .i64 x.f2, .int .u64 x.f3] := ⟨[.int .i64 x.f0], [.int .i64 x.f1, .int .i64 x.f2, .int .u64 x.f3], rfl, rfl, ⟨[.int .i64 x.f1], [.int .i64 x.f2, .int .u64 x.f3], rfl, rfl, ⟨[.int .i64 x.f2], [.int .u64 x.f3], rfl, rfl, rfl⟩⟩⟩
def rd51 (xs : List S51) (i : Nat) : S51 := xs.getD i z51
theorem at_T51 {w : World} {A : Option Addr} {n : Nat} {xs : List S51} (h : Kd.C k51 w A n xs) (i : Nat) (h1 : (i : Int) < n) : ∃ ad , A = some ad ∧ w.cell? (ad.add (i * 4)) = some (.int .i64 (rd51 xs i).f0) ∧ w.cell? ⟨(ad.add (i * 4)).block, (ad.add (i * 4)).off + 1, none⟩ = some (.int .i64 (rd51 xs i).f1) ∧ w.cell? ⟨(ad.add (i * 4)).block, (ad.add (i * 4)).off + 2, none⟩ = some (.int .i64 (rd51 xs i).f2) ∧ w.cell? ⟨(ad.add (i * 4)).block, (ad.add (i * 4)).off + 3, none⟩ = some (.int .u64 (rd51 xs i).f3) := by
  obtain ⟨ad, c, e, _, hK, hc0⟩ := Kd.C_get h z51 (i : Int) (by omega) h1
  rw [Int.toNat_natCast] at hK hc0
  have hc : ∀ j u, c[j]? = some u → w.cell? (ad.add (i * 4 + j)) = some u := hc0
  obtain rfl := k51_open hK
  exact ⟨ad, e, hc 0 _ rfl, by rw [← add_field _ _ 1 (by omega)]; exact hc 1 _ rfl, by rw [← add_field _ _ 2 (by omega)]; exact hc 2 _ rfl, by rw [← add_field _ _ 3 (by omega)]; exact hc 3 _ rfl⟩
/-! ### Mod -/
def md (x n : Int) : Int := if Int.tmod x n < 0 then Int.tmod x n + n else Int.tmod x n
theorem tmod_in (x : Int) {n : Int} (hn : 1 ≤ n) : -n < Int.tmod x n ∧ Int.tmod x n < n := by
  have h1 := Int.tmod_lt_of_pos x (show 0 < n by omega)
  have h2 := Int.tmod_lt_of_pos (-x) (show 0 < n by omega)
  rw [Int.neg_tmod] at h2
  omega
theorem md_in (x : Int) {n : Int} (hn : 1 ≤ n) : 0 ≤ md x n ∧ md x n < n := by
  have := tmod_in x hn
  unfold md
  split <;> omega
theorem md_is (x n : Int) (hn : 1 ≤ n ∧ n ≤ 1000) : remontoirkeep_Mod.f x n = some (md x n) := by
  have h := tmod_in x hn.1
  unfold remontoirkeep_Mod.f md
  generalize Int.tmod x n = r at h ⊢
  rw [if_neg (by omega)]
  by_cases c : r < 0
  · have e : wrap64 (r + n) = r + n := by unfold wrap64; omega
    rw [if_pos c, if_pos c, e]
  · rw [if_neg c, if_neg c]
theorem mod_calls (x n r : Int) (W : World) (hn : 1 ≤ n ∧ n ≤ 1000) (h : md x n = r) : Calls Try.prog 19 #[.int .i64 x, .int .i64 n] W fun e w' => e = .returned (.int .i64 r) ∧ Below W.heap.size W w' := by
  subst h
  refine (remontoirkeep_Mod.calls x n _ W (md_is x n hn)).mono ?_
  rintro e w' ⟨rfl, hb⟩
  first
    | exact ⟨rfl, hb.below⟩
    | exact ⟨rfl, hb⟩
/-! ### The law's book, and what its maps hold -/
/-- The number of a job's lease; 0. -/
def num (b : Book) (x : Int) : Int := ((lk gjo b.Ls x).map (fun g => g.n)).getD 0
structure OJ (b : Book) (n nx : Int) (hd us : Int → Option Int) : Prop where
  tr : b.tr = n
  ids : ∀ j ∈ b.Js, 0 ≤ j.id ∧ j.id < nx
  hd : ∀ x, (hd x).getD 0 = num b x
  us : ∀ j ∈ b.Js, (us j.id).getD 0 = j.us
theorem OJ.start (n : Int) : OJ (b0 3 8 n) n 0 (fun _ => none) (fun _ => none) := ⟨rfl, (fun _ h => nomatch h), fun _ => rfl, (fun _ h => nomatch h)⟩
section
variable {b : Book} {n nx : Int} {hd us : Int → Option Int}
theorem num_none {x : Int} (h : lk gjo b.Ls x = none) : num b x = 0 := by unfold num; rw [h]; rfl
theorem OJ.addE (h : OJ b n nx hd us) {cl : Int} (hc : 0 ≤ cl ∧ cl < 8) : addE b nx cl = 0 ∨ addE b nx cl = 10 := by
  have h2 : nx ∉ b.Js.map jid := by
    intro hx
    obtain ⟨j, hj, e⟩ := List.mem_map.1 hx
    have := (h.ids j hj).2
    have e : j.id = nx := e
    omega
  by_cases h3 : (b.Js.length : Int) < b.rm
  · exact .inl (addE_0 hc h2 h3)
  · exact .inr (addE_10 hc h2 (by omega))
theorem OJ.add (h : OJ b n nx hd us) (hI : Inv b) {cl : Int} (h0 : 0 ≤ nx) (hus : ∀ x, nx ≤ x → (us x).getD 0 = 0) : OJ (addB b nx cl) n (nx + 1) hd us := by
  refine ⟨h.tr, fun j hj => ?_, h.hd, fun j hj => ?_⟩
  · rcases List.mem_append.1 hj with hj | hj
    · have := h.ids j hj; omega
    · rw [List.mem_singleton.1 hj]; exact ⟨h0, by show nx < nx + 1; omega⟩
  · rcases List.mem_append.1 hj with hj | hj
    · exact h.us j hj
    · rw [List.mem_singleton.1 hj]; exact hus nx (Int.le_refl _)
/-- A lease more. -/
theorem OJ.fetch (h : OJ b n nx hd us) (hI : Inv b) (h0 : 0 < b.L.length) (un x q t : Int) (hx : (fetchJ b).f0 = x) (hq : b.ct + 1 = q) (ht : usedOf b x + 1 = t) : (0 ≤ x ∧ x < nx) ∧ (hd x).getD 0 = 0 ∧ (us x).getD 0 + 1 = t ∧ 1 ≤ t ∧ t ≤ n + 1 ∧ 1 ≤ q ∧ OJ (fetchB b un) n nx (upd hd x (some q)) (upd us x (some t)) := by
  obtain ⟨_, j, hj, e1, _, e3, hk⟩ := hI.first h0
  rw [hx] at e1 hk
  have hu : usedOf b x = j.us := by unfold usedOf; rw [hk]; rfl
  have hok := (hI.ok j hj).2
  have hnl : x ∉ b.Ls.map gjo := by rw [← e1]; exact hI.no_lease hj (by omega)
  have hct := hI.ct
  have hid := h.ids j hj
  have htr := h.tr
  have huj := h.us j hj
  rw [e1] at huj hid
  refine ⟨hid, by rw [h.hd, num_none (lk_none.2 hnl)], by omega, by omega, by omega, by omega, ⟨h.tr, fun k hk => ?_, fun z => ?_, fun k hk => ?_⟩⟩
  · rcases setJ_mem hk with ⟨hk, _⟩ | ⟨k2, hk2, e, rfl⟩
    · exact h.ids k hk
    · exact h.ids k2 hk2
  · have e5 : num (fetchB b un) z = if z = x then q else num b z := by
      unfold num
      rw [show (fetchB b un).Ls = b.Ls ++ [⟨b.ct + 1, (fetchJ b).f0, un⟩] from rfl, hx, hq, lk_snoc (κ := gjo) b.Ls ⟨q, x, un⟩ z hnl]
      by_cases e : z = x
      · rw [if_pos (show z = gjo ⟨q, x, un⟩ from e), if_pos e]; rfl
      · rw [if_neg (show ¬ z = gjo ⟨q, x, un⟩ from e), if_neg e]
    rw [e5]
    unfold upd
    by_cases e : z = x
    · rw [if_pos e, if_pos e]; rfl
    · rw [if_neg e, if_neg e]; exact h.hd z
  · rcases setJ_mem hk with ⟨hk, hne⟩ | ⟨k2, hk2, e, rfl⟩
    · rw [hx] at hne
      unfold upd
      rw [if_neg hne]
      exact h.us k hk
    · rw [hx] at e
      show (upd us x (some t) k2.id).getD 0 = usedOf b (fetchJ b).f0 + 1
      rw [e, upd_same, hx]
      exact ht.symm
theorem num_gone (b : Book) (x z : Int) : num (goneB b x) z = if z = x then 0 else num b z := by
  unfold num
  rw [show (goneB b x).Ls = Lst.rm gjo b.Ls x from rfl, lk_rm]
  by_cases e : z = x
  · rw [if_pos e, if_pos e]; rfl
  · rw [if_neg e, if_neg e]
theorem num_rest (b : Book) (x u z : Int) : num (restB b x u) z = if z = x then 0 else num b z := num_gone b x z
theorem hd_zero (h : OJ b n nx hd us) (x : Int) {b2 : Book} (h2 : ∀ z, num b2 z = if z = x then 0 else num b z) (z : Int) : (upd hd x (some 0) z).getD 0 = num b2 z := by
  rw [h2]
  unfold upd
  by_cases e : z = x
  · rw [if_pos e, if_pos e]; rfl
  · rw [if_neg e, if_neg e]; exact h.hd z
theorem OJ.gone (h : OJ b n nx hd us) (x : Int) : OJ (goneB b x) n nx (upd hd x (some 0)) us :=
  ⟨h.tr, fun j hj => h.ids j (rm_mem.1 hj).1, hd_zero h x (num_gone b x), fun j hj => h.us j (rm_mem.1 hj).1⟩
/-- A lease that fails, and its job waits again. -/
theorem OJ.rest (h : OJ b n nx hd us) (hI : Inv b) {x : Int} {g : Gr} (hg : lk gjo b.Ls x = some g) : ∃ j ∈ (restB b x (usedOf b x)).Js, j.id = x ∧ j.st = 3 ∧ OJ (wakeB (restB b x (usedOf b x)) j) n nx (upd hd x (some 0)) us := by
  obtain ⟨hm, e⟩ := lk_mem hg
  obtain ⟨j, hj, hji, hjs, hjk, _⟩ := hI.job hm
  have e : g.j = x := e
  rw [e] at hji hjk
  have hu : usedOf b x = j.us := by unfold usedOf; rw [hjk]; rfl
  have hm1 := mem_setJ (id := x) (s := 3) (u := usedOf b x) hj
  rw [if_pos hji] at hm1
  refine ⟨_, hm1, hji, rfl, ⟨h.tr, fun k hk => ?_, hd_zero h x (num_rest b x (usedOf b x)), fun k hk => ?_⟩⟩
  · rcases setJ_mem hk with ⟨hk, _⟩ | ⟨k2, hk2, e, rfl⟩
    · rcases setJ_mem hk with ⟨hk, _⟩ | ⟨k3, hk3, e, rfl⟩
      · exact h.ids k hk
      · exact h.ids k3 hk3
    · rcases setJ_mem hk2 with ⟨hk, _⟩ | ⟨k3, hk3, e, rfl⟩
      · exact h.ids k2 hk
      · exact h.ids k3 hk3
  · rcases setJ_mem hk with ⟨hk, hne⟩ | ⟨k2, hk2, e, rfl⟩
    · rcases setJ_mem hk with ⟨hk, _⟩ | ⟨k3, hk3, e, rfl⟩
      · exact h.us k hk
      · exact absurd (e.trans hji.symm) hne
    · have e : k2.id = j.id := e
      show (us k2.id).getD 0 = usedOf b x
      rw [e, hu]
      exact h.us j hj
end
end Go.Proofs.Ytfkebbkfmchnaaa.Bk
