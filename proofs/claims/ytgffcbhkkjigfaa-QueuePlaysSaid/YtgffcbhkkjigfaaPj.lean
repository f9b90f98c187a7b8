/- QueuePlays: the two queues' Takes, the act's kind. Conditions: none. -/
import Derived.Test.YtgffcbhkkjigfaaRl
import Derived.Test.YtgffcbhkkjigfaaRm
namespace Go.Proofs.Ytgffcbhkkjigfaa.Ln
open Go.RowKit Go.Proofs.Ytgffcbhkkjigfaa.PBase Go.Proofs.Ytgffcbhkkjigfaa.Cat Go.Proofs.Ytgffcbhkkjigfaa.Heap Go.Proofs.YtgffcbhkkjigfaaW.PrintWords Go.Proofs.YtgffcbhkkjigfaaW.PrintLast Go.Proofs.YtgffcbhkkjigfaaW.PrintMore
set_option linter.unusedVariables false
/-- A number's kind of act. -/
def md6 (x : Int) : Int := if Int.tmod x 6 < 0 then Int.tmod x 6 + 6 else Int.tmod x 6
theorem tmod6 (x : Int) : -6 < Int.tmod x 6 ∧ Int.tmod x 6 < 6 := by
  have h1 := Int.tmod_lt_of_pos x (show (0 : Int) < 6 by decide)
  have h2 := Int.tmod_lt_of_pos (-x) (show (0 : Int) < 6 by decide)
  rw [Int.neg_tmod] at h2
  omega
theorem md6_in (x : Int) : 0 ≤ md6 x ∧ md6 x < 6 := by
  have := tmod6 x
  unfold md6
  split <;> omega
theorem md6_is (x : Int) : remontoirkeep_Mod.f x 6 = some (md6 x) := by
  have h := tmod6 x
  unfold remontoirkeep_Mod.f md6
  generalize Int.tmod x 6 = r at h ⊢
  rw [if_neg (by decide)]
  by_cases c : r < 0
  · have e : wrap64 (r + 6) = r + 6 := by unfold wrap64; omega
    rw [if_pos c, if_pos c, e]
  · rw [if_neg c, if_neg c]
theorem mod6_calls (x n : Int) (W : World) (h : md6 x = n) : Calls Try.prog 16 #[.int .i64 x, .int .i64 6] W fun e w' => e = .returned (.int .i64 n) ∧ Below W.heap.size W w' := by
  subst h
  refine (remontoirkeep_Mod.calls x 6 _ W (md6_is x)).mono ?_
  rintro e w' ⟨rfl, h⟩
  exact ⟨rfl, h.below⟩
section
variable {N : Nat} {w : World} {R : Nat} {v : Value} {ag rm ct : Int} {L LR : List S32}
/-- The reference's Take beside the queue's, where nobody waits. -/
theorem rtake_nil (h : RS N w R v ag rm ct []) : Calls Try.prog 21 #[.pointer (some ⟨R, 0, none⟩)] w fun e w' => e = .returned (.tuple #[.agg #[.int .i64 0, .int .i64 0, .int .i64 0], .int .i64 12]) ∧ Aside0 (RGo N w R v w' ag rm ct []) := rtake_none h rfl (by decide)
/-- The reference's Take beside the queue's, where one waits. -/
theorem rtake_some (h : RS N w R v ag rm ct LR) (hp : LR.Perm L) (hs : St ag L) (h0 : 0 < L.length) (hl : L.length ≤ 1000) (ct1 : Int) (hct : IntKind.i64.wrap (ct + 1) = ct1) (x : S32) (hx : Heap.g z32 L 0 = x) :
    Calls Try.prog 21 #[.pointer (some ⟨R, 0, none⟩)] w fun e w' => e = .returned (.tuple #[.agg #[.int .i64 x.f0, .int .i64 x.f1, .int .i64 x.f2], .int .i64 0]) ∧ Aside0 (∃ LR', LR'.Perm (removeL ag L 0) ∧ St ag (removeL ag L 0) ∧ RGo N w R v w' ag rm ct1 LR') := by
  subst hx
  obtain ⟨⟨j, hj, hj1, hj2⟩, h3, h4⟩ := rtake_perm hp hs h0
  have hT := rtake_yes h j hj hj1 _ hj2 (by rw [hp.length_eq]; exact hl) ct1 hct
  refine hT.mono ?_
  rintro e w' ⟨rfl, hz⟩
  exact ⟨rfl, ⟨_, h3, h4, hz.out⟩⟩
/-- The reference's Put beside the queue's. -/
theorem rput_some (h : RS N w R v ag rm ct LR) (hp : LR.Perm L) (hs : St ag L) (hl : L.length ≤ 1000) (id cl : Int) :
    Calls Try.prog 20 #[.pointer (some ⟨R, 0, none⟩), .int .i64 id, .int .i64 cl] w fun e w' => e = .returned (.int .i64 (putE L rm id cl)) ∧ Aside0 (∃ LR', LR'.Perm (putL ag rm ct L id cl) ∧ St ag (putL ag rm ct L id cl) ∧ RGo N w R v w' ag rm ct LR') := by
  have hT := rput_calls h id cl (by rw [hp.length_eq]; exact hl)
  refine hT.mono ?_
  rintro e w' ⟨rfl, hz⟩
  obtain ⟨h1, h2⟩ := rput_perm (rm := rm) (ct := ct) hp hs id cl
  exact ⟨by rw [putE_perm hp], ⟨_, h1, h2, hz.out⟩⟩
/-- The reference's Drop beside the queue's. -/
theorem rdrop_some (h : RS N w R v ag rm ct LR) (hp : LR.Perm L) (hs : St ag L) (hl : L.length ≤ 1000) (id : Int) :
    Calls Try.prog 23 #[.pointer (some ⟨R, 0, none⟩), .int .i64 id] w fun e w' => e = .returned (.bool (decide (0 ≤ place L id))) ∧ Aside0 (∃ LR', LR'.Perm (dropL ag L id) ∧ St ag (dropL ag L id) ∧ RGo N w R v w' ag rm ct LR') := by
  have hT := rdrop_calls h id (by rw [hp.length_eq]; exact hl)
  refine hT.mono ?_
  rintro e w' ⟨rfl, hz⟩
  obtain ⟨h1, h2⟩ := rdrop_perm hp hs id
  exact ⟨by rw [decide_eq_decide.2 (place_perm hp id)], ⟨_, h1, h2, hz.out⟩⟩
/-- The blocks of the reference's queue. -/
abbrev X2 (R : Nat) (v : Value) (k : Nat) : Prop := k = R ∨ v.ownBlock = some k
theorem RS.q {w' : World} (h : RS N w R v ag rm ct LR) (hf : Fr (KX N (X2 R v)) w w') : RS N w' R v ag rm ct LR :=
  h.keep hf (fun e => e.2 (.inl rfl)) (fun k hk e => e.2 (.inr hk))
theorem QI.r {w' : World} {B : Nat} {ag2 rm2 ct2 ct3 : Int} {LR2 : List S32} (hq : QI N (X2 R v) w B ag rm ct L) (hg : RGo N w R v w' ag2 rm2 ct3 LR2) : ∃ v', RS N w' R v' ag2 rm2 ct3 LR2 ∧ QI N (X2 R v') w' B ag rm ct L ∧ Fr (fun k => N ≤ k) w w' := by
  obtain ⟨v', h1, hf, hat⟩ := hg
  refine ⟨v', h1, hq.swap (hf.weak (fun k e => .inl e)) (fun k hk => ?_), hf.weak (fun k e => e ▸ h1.nr)⟩
  rcases hk with rfl | hk
  · exact ⟨.inl (.inl rfl), blk_lt h1.g⟩
  · refine ⟨?_, own_lt (own_of_R h1.r) k hk⟩
    rcases hat with rfl | hat
    · exact .inl (.inr hk)
    · exact .inr (hat k hk)
end
end Go.Proofs.Ytgffcbhkkjigfaa.Ln

namespace Go.Proofs.Ytgffcbhkkjigfaa.Ln
open Go.RowKit Go.Proofs.Ytgffcbhkkjigfaa.PBase Go.Proofs.Ytgffcbhkkjigfaa.Cat Go.Proofs.Ytgffcbhkkjigfaa.Heap Go.Proofs.YtgffcbhkkjigfaaW.PrintWords Go.Proofs.YtgffcbhkkjigfaaW.PrintLast Go.Proofs.YtgffcbhkkjigfaaW.PrintMore
set_option linter.unusedVariables false
theorem put_len2 {ag rm ct : Int} {L : List S32} (h : St ag L) (id cl : Int) : (putL ag rm ct L id cl).length ≤ L.length + 1 := by
  by_cases c : putE L rm id cl = 0
  · rw [putL_ok c, (h.push (x := ⟨id, cl, ct⟩) (putE_zero c)).2.length_eq]
    exact Nat.le_refl _
  · rw [putL_no c]
    omega
theorem drop_len2 {ag : Int} {L : List S32} (h : St ag L) (id : Int) : (dropL ag L id).length ≤ L.length := by
  by_cases c : id ∈ ids L
  · obtain ⟨x, _, _, _, hp⟩ := h.drop c
    have := hp.length_eq
    rw [List.length_cons] at this
    omega
  · rw [drop_no c]
    exact Nat.le_refl _
theorem QI.sub {N : Nat} {X Y : Nat → Prop} {W : World} {B : Nat} {ag rm ct : Int} {L : List S32} (h : QI N X W B ag rm ct L) (hs : ∀ k, Y k → X k) : QI N Y W B ag rm ct L := by
  obtain ⟨⟨v, h1, h2⟩, h3⟩ := h
  exact ⟨⟨v, h1, fun k hk => h2 k (hs k hk)⟩, fun k hk => h3 k (hs k hk)⟩
theorem RGo.fr {N : Nat} {w w' : World} {R : Nat} {v : Value} {ag rm ct : Int} {L : List S32} (h : RGo N w R v w' ag rm ct L) : Fr (fun b => b = R) w w' := by
  obtain ⟨_, _, h, _⟩ := h
  exact h
/-- The reference's blocks, and the act's. -/
abbrev X3 (R : Nat) (v : Value) (g k : Nat) : Prop := X2 R v k ∨ k = g
/-- Where the loop's round stands behind the switch. -/
def PlayTo (N : Nat) (Wb : World) (B R : Nat) (ag rm : Int) (i : Nat) (wx : World) : Prop := ∃ (L LR : List S32) (v : Value) (ct : Int), L.length ≤ i + 1 ∧ 0 ≤ ct ∧ ct ≤ (i : Int) + 1 ∧ St ag L ∧ LR.Perm L ∧ RS N wx R v ag rm ct LR ∧ QI N (X2 R v) wx B ag rm ct L ∧ Fr (fun k => N ≤ k) Wb wx
/-- Ahead of the switch. -/
structure PlayAt (N : Nat) (Wb : World) (B R : Nat) (ag rm : Int) (i g : Nat) (x : S32) (w : World) (L LR : List S32) (v : Value) (ct : Int) : Prop where
  ll : L.length ≤ i
  c0 : 0 ≤ ct
  c1 : ct ≤ (i : Int)
  st : St ag L
  pm : LR.Perm L
  rs : RS N w R v ag rm ct LR
  qi : QI N (X3 R v g) w B ag rm ct L
  fr : Fr (fun k => N ≤ k) Wb w
  box : w.heap[g]? = some (.cells #[.int .i64 x.f0, .int .i64 x.f1, .int .i64 x.f2] 42 (0, 0))
section
variable {N : Nat} {Wb : World} {B R : Nat} {ag rm : Int} {i g : Nat} {x : S32} {w : World} {L LR : List S32} {v : Value} {ct : Int}
theorem PlayAt.ne (h : PlayAt N Wb B R ag rm i g x w L LR v ct) : g ≠ R := fun e => by
  have h1 := h.box
  rw [e, h.rs.g] at h1
  cases h1
theorem PlayAt.cells (h : PlayAt N Wb B R ag rm i g x w L LR v ct) (w' : World) (hf : Fr (fun k => k ≠ g) w w') : w'.cell? ⟨g, 1, none⟩ = some (.int .i64 x.f1) ∧ w'.cell? ⟨g, 2, none⟩ = some (.int .i64 x.f2) :=
  ⟨hf.cell ((blk_cell h.box 1).trans rfl) (fun e => e rfl), hf.cell ((blk_cell h.box 2).trans rfl) (fun e => e rfl)⟩
theorem PlayAt.step {w' : World} (h : PlayAt N Wb B R ag rm i g x w L LR v ct) (hb : Below w.heap.size w w') : PlayAt N Wb B R ag rm i g x w' L LR v ct :=
  ⟨h.ll, h.c0, h.c1, h.st, h.pm, h.rs.step hb, h.qi.step hb, h.fr.trans (Fr.of_b0 hb), blk_below h.box hb⟩
/-- The reference's call behind the queue's: the round's end. -/
theorem PlayAt.to {w1 w2 : World} {ct1 : Int} {L1 LR1 : List S32} (h : PlayAt N Wb B R ag rm i g x w L LR v ct) (hq : QI N (X2 R v) w1 B ag rm ct1 L1) (hf : Fr (fun k => N ≤ k) w w1) (hg : RGo N w1 R v w2 ag rm ct1 LR1) (hl : L1.length ≤ i + 1) (h0 : 0 ≤ ct1) (h1 : ct1 ≤ (i : Int) + 1) (hs : St ag L1) (hp : LR1.Perm L1) : PlayTo N Wb B R ag rm i w2 := by
  obtain ⟨v', k1, k2, k3⟩ := hq.r (ct2 := 0) hg
  exact ⟨L1, LR1, v', ct1, hl, h0, h1, hs, hp, k1, k2, (h.fr.trans hf).trans k3⟩
theorem KX.ne {k : Nat} (e : KX N (X3 R v g) k) : k ≠ g := fun h => e.2 (.inr h)
theorem KX.two {k : Nat} (e : KX N (X3 R v g) k) : KX N (X2 R v) k := ⟨e.1, fun h => e.2 (.inl h)⟩
theorem PlayTo.step {w' : World} (h : PlayTo N Wb B R ag rm i w) (hb : Below w.heap.size w w') : PlayTo N Wb B R ag rm i w' := by
  obtain ⟨L, LR, v, ct, h1, h2, h3, h4, h5, h6, h7, h8⟩ := h
  exact ⟨L, LR, v, ct, h1, h2, h3, h4, h5, h6.step hb, h7.step hb, h8.trans (Fr.of_b0 hb)⟩
end
theorem wrap_up {x : Int} (h0 : 0 ≤ x) (h1 : x ≤ 1000000) : IntKind.i64.wrap (x + 1) = x + 1 := by rw [i64_w]; unfold wrap64; omega
end Go.Proofs.Ytgffcbhkkjigfaa.Ln
