/- QueuePlays: the two queues' Takes, the act's kind. Conditions: none. -/
import Derived.Test.YtfkebbkfmchnaaaQrl
namespace Go.Proofs.Ytfkebbkfmchnaaa.Ln
open Go.RowKit Go.Proofs.Ytfkebbkfmchnaaa.PBase Go.Proofs.Ytfkebbkfmchnaaa.PRef Go.Proofs.Ytfkebbkfmchnaaa.Cat Go.Proofs.Ytfkebbkfmchnaaa.Heap Go.Proofs.YtfkebbkfmchnaaaW.PrintWords Go.Proofs.YtfkebbkfmchnaaaW.PrintLast Go.Proofs.YtfkebbkfmchnaaaW.PrintMore
set_option linter.unusedVariables false
section
variable {N : Nat} {w : World} {R : RK} {v : Value} {ag rm ct : Int} {L LR : List S77}
/-- The reference's Take beside the queue's, where nobody waits. -/
theorem rtake_nil (h : RS N w R v ag rm ct []) : Calls Try.prog 45 #[.pointer (some ⟨R, 0, none⟩)] w fun e w' => e = .returned (.tuple #[.agg #[.int .i64 0, .int .i64 0, .int .i64 0], .int .i64 12]) ∧ Aside0 (RGo N w R v w' ag rm ct []) := rtake_none h rfl (by decide)
/-- The reference's Take beside the queue's, where one waits. -/
theorem rtake_some (h : RS N w R v ag rm ct LR) (hp : LR.Perm L) (hs : St ag L) (h0 : 0 < L.length) (hl : L.length ≤ 1000) (ct1 : Int) (hct : IntKind.i64.wrap (ct + 1) = ct1) (x : S77) (hx : Heap.g z77 L 0 = x) :
    Calls Try.prog 45 #[.pointer (some ⟨R, 0, none⟩)] w fun e w' => e = .returned (.tuple #[.agg #[.int .i64 x.f0, .int .i64 x.f1, .int .i64 x.f2], .int .i64 0]) ∧ Aside0 (∃ LR', LR'.Perm (removeL ag L 0) ∧ St ag (removeL ag L 0) ∧ RGo N w R v w' ag rm ct1 LR') := by
  subst hx
  obtain ⟨⟨j, hj, hj1, hj2⟩, h3, h4⟩ := rtake_perm hp hs h0
  have hT := rtake_yes h j hj hj1 _ hj2 (by rw [hp.length_eq]; exact hl) ct1 hct
  refine hT.mono ?_
  rintro e w' ⟨rfl, hz⟩
  exact ⟨rfl, ⟨_, h3, h4, hz.out⟩⟩
/-- The reference's Put beside the queue's. -/
theorem rput_some (h : RS N w R v ag rm ct LR) (hp : LR.Perm L) (hs : St ag L) (hl : L.length ≤ 1000) (id cl : Int) :
    Calls Try.prog 44 #[.pointer (some ⟨R, 0, none⟩), .int .i64 id, .int .i64 cl] w fun e w' => e = .returned (.int .i64 (putE L rm id cl)) ∧ Aside0 (∃ LR', LR'.Perm (putL ag rm ct L id cl) ∧ St ag (putL ag rm ct L id cl) ∧ RGo N w R v w' ag rm ct LR') := by
  have hT := rput_calls h id cl (by rw [hp.length_eq]; exact hl)
  refine hT.mono ?_
  rintro e w' ⟨rfl, hz⟩
  obtain ⟨h1, h2⟩ := rput_perm (rm := rm) (ct := ct) hp hs id cl
  exact ⟨by rw [putE_perm hp], ⟨_, h1, h2, hz.out⟩⟩
/-- The reference's Drop beside the queue's. -/
theorem rdrop_some (h : RS N w R v ag rm ct LR) (hp : LR.Perm L) (hs : St ag L) (hl : L.length ≤ 1000) (id : Int) :
    Calls Try.prog 51 #[.pointer (some ⟨R, 0, none⟩), .int .i64 id] w fun e w' => e = .returned (.bool (decide (0 ≤ place L id))) ∧ Aside0 (∃ LR', LR'.Perm (dropL ag L id) ∧ St ag (dropL ag L id) ∧ RGo N w R v w' ag rm ct LR') := by
  have hT := rdrop_calls h id (by rw [hp.length_eq]; exact hl)
  refine hT.mono ?_
  rintro e w' ⟨rfl, hz⟩
  obtain ⟨h1, h2⟩ := rdrop_perm hp hs id
  exact ⟨by rw [decide_eq_decide.2 (place_perm hp id)], ⟨_, h1, h2, hz.out⟩⟩
/-- The blocks of the reference's queue. -/
abbrev X2 (R : RK) (v : Value) (k : Nat) : Prop := k = R ∨ v.ownBlock = some k
theorem RS.q {w' : World} (h : RS N w R v ag rm ct LR) (hf : Fr (KX N (X2 R v)) w w') : RS N w' R v ag rm ct LR :=
  h.keep hf (fun e => e.2 (.inl rfl)) (fun k hk e => e.2 (.inr hk))
end
end Go.Proofs.Ytfkebbkfmchnaaa.Ln
