/- container/heap's Push and Remove on a line, as calls. Conditions: the line lies in memory as told. -/
import Derived.Test.YtfkebbkfmchnaaaDn
namespace Go.Proofs.Ytfkebbkfmchnaaa.Ln
open Go.RowKit Go.Proofs.Ytfkebbkfmchnaaa.PBase Go.Proofs.Ytfkebbkfmchnaaa.Cat Go.Proofs.Ytfkebbkfmchnaaa.Heap Go.Proofs.YtfkebbkfmchnaaaW.PrintWords Go.Proofs.YtfkebbkfmchnaaaW.PrintLast Go.Proofs.YtfkebbkfmchnaaaW.PrintMore
/-- A job more, and it goes up. -/
def pushL (ag : Int) (L : List S77) (x : S77) : List S77 := Heap.up z77 (lt ag) L.length (L ++ [x]) L.length
/-- The places but the last, behind a removal at i. -/
def fixL (ag : Int) (L : List S77) (i n : Nat) : List S77 := if i < (Heap.down z77 (lt ag) n (sw z77 L i n) i n).2 then (Heap.down z77 (lt ag) n (sw z77 L i n) i n).1 else Heap.up z77 (lt ag) i (Heap.down z77 (lt ag) n (sw z77 L i n) i n).1 i
def removeL (ag : Int) (L : List S77) (i : Nat) : List S77 := (if L.length - 1 ≠ i then fixL ag L i (L.length - 1) else L).take (L.length - 1)
theorem up_len (ag : Int) : ∀ (f : Nat) (M : List S77) (j : Nat), (Heap.up z77 (lt ag) f M j).length = M.length := by
  intro f
  induction f with
  | zero => intro M j; rfl
  | succ f ih =>
    intro M j
    unfold Heap.up
    split
    · rfl
    · rw [ih, sw_len]
theorem down_len (ag : Int) (n : Nat) : ∀ (f : Nat) (M : List S77) (j : Nat), (Heap.down z77 (lt ag) f M j n).1.length = M.length := by
  intro f
  induction f with
  | zero => intro M j; rfl
  | succ f ih =>
    intro M j
    unfold Heap.down
    split
    · rfl
    · split
      · rfl
      · rw [ih, sw_len]
theorem fixL_len (ag : Int) (L : List S77) (i n : Nat) : (fixL ag L i n).length = L.length := by
  unfold fixL
  split
  · rw [down_len, sw_len]
  · rw [up_len, down_len, sw_len]
theorem QS.drewN {W : World} {base B : Nat} {ag rm ct : Int} {v : Value} {L : List S77} (h : QS W base B ag v rm ct L) (n : Nat) : QS (W.drewN n) base B ag v rm ct L := ⟨h.blk, h.lb, h.own⟩
theorem Fr.drewN {F : Nat → Prop} (W : World) (n : Nat) : Fr F W (W.drewN n) := ⟨rfl, rfl, rfl, Nat.le_refl _, fun _ _ _ => rfl⟩
theorem qf_at {W : World} {B : Nat} {v v' : Value} (h : At W v v') : ∀ b, QF B v' b → QF B v b ∨ W.heap.size ≤ b := by
  rintro b (e | e)
  · exact .inl (.inl e)
  · rcases h with h | ⟨c, h, hc⟩
    · exact .inl (.inr (h ▸ e))
    · rw [h] at e
      injection e with e
      subst e
      exact .inr hc
theorem qf_same {B : Nat} {v v' : Value} (h : v'.ownBlock = v.ownBlock) : ∀ b, QF B v' b → QF B v b := by
  rintro b (e | e)
  · exact .inl e
  · exact .inr (h ▸ e)
set_option maxHeartbeats 4000000 in
set_option maxRecDepth 100000 in
theorem heap_push_calls {W : World} {base B : Nat} {ag rm ct : Int} {v : Value} {L : List S77} (h : QS W base B ag v rm ct L) (x : S77) (hl : L.length ≤ 100000) :
    Calls Try.prog 59 #[.iface 115 (.pointer (some ⟨B, 0, none⟩)), .iface 77 (.agg #[.int .i64 x.f0, .int .i64 x.f1, .int .i64 x.f2])] W fun e w' => e = .returned (.tuple #[]) ∧ ∃ v', QS w' base B ag v' rm ct (pushL ag L x) ∧ Fr (QF B v) W w' ∧ At W v v' := by
  have hm1 := fun W => mPush W (some ⟨B, 0, none⟩)
  have hm2 := fun W => mLen W (some ⟨B, 0, none⟩)
  obtain ⟨Q, hQe⟩ : ∃ Q : Int, (L.length : Int) = Q := ⟨_, rfl⟩
  obtain ⟨Q1, hQ1⟩ : ∃ Q : Int, (((L ++ [x]).length : Nat) : Int) = Q := ⟨_, rfl⟩
  have hlen : (L ++ [x]).length = L.length + 1 := by simp
  have hw : IntKind.i64.wrap (Q1 - 1) = Q := by rw [wrap_pred (by omega) (by omega)]; omega
  have HE := Aside0.mk hQe
  have HE1 := Aside0.mk hQ1
  clear hQe hQ1
  go_enter Try.func59, Try.ntmps59
  go_wp2_with (first
    | (go_at_call 122; refine (push_calls h x (by omega)).mono ?_; rintro e w7 ⟨rfl, v7, hQ7, hF7, hA7⟩)
    | (go_at_call 72; refine (len_calls hQ7).mono ?_; rintro e w8 ⟨rfl, n8, rfl⟩; rw [HE1.out])
    | (go_at_call 73; refine ((by have := up_calls (hQ7.drewN n8) L.length (by omega) (by omega); rw [HE.out] at this; exact this) : Calls _ _ _ _ _).mono ?_; rintro e w9 ⟨rfl, hQ9, hF9⟩))
  go_end0
  exact ⟨rfl, v7, hQ9, Fr.then_ (Fr.then_ hF7 (Fr.drewN w7 n8) (fun _ h => .inl h)) hF9 (qf_at hA7), hA7⟩
set_option maxHeartbeats 4000000 in
set_option maxRecDepth 100000 in
theorem heap_remove_calls {W : World} {base B : Nat} {ag rm ct : Int} {v : Value} {L : List S77} (h : QS W base B ag v rm ct L) (i : Nat) (hi : i < L.length) (hl : L.length ≤ 100000) :
    Calls Try.prog 60 #[.iface 115 (.pointer (some ⟨B, 0, none⟩)), .int .i64 i] W fun e w' => (∃ q, e = .returned q) ∧ ∃ v', QS w' base B ag v' rm ct (removeL ag L i) ∧ Fr (QF B v) W w' ∧ v'.ownBlock = v.ownBlock := by
  have hm1 := fun W => mPop W (some ⟨B, 0, none⟩)
  have hm2 := fun W => mLen W (some ⟨B, 0, none⟩)
  have hm3 := fun W => mSwap W (some ⟨B, 0, none⟩)
  obtain ⟨Q, hQe⟩ : ∃ Q : Int, (L.length : Int) = Q := ⟨_, rfl⟩
  obtain ⟨n, hn⟩ : ∃ n : Nat, L.length - 1 = n := ⟨_, rfl⟩
  have hw : IntKind.i64.wrap (Q - 1) = n := by rw [wrap_pred (by omega) (by omega)]; omega
  have HE := Aside0.mk hQe
  have HN := Aside0.mk hn
  clear hQe
  unfold removeL
  by_cases hni : L.length - 1 = i
  · have hne : ((n : Int) == (i : Int)) = true := by rw [beq_iff_eq]; omega
    rw [if_neg (by simp [hni])]
    clear hn
    go_enter Try.func60, Try.ntmps60
    go_wp2_with (first
      | (go_at_call 72; refine (len_calls h).mono ?_; rintro e w8 ⟨rfl, n8, rfl⟩; rw [HE.out])
      | (go_at_call 121; refine (pop_calls (h.drewN n8) (by omega)).mono ?_; rintro e w9 ⟨⟨q, rfl⟩, v9, hQ9, hF9, hA9⟩))
    go_ret
    exact ⟨⟨_, rfl⟩, v9, hQ9, Fr.then_ (Fr.drewN W n8) hF9 (fun _ h => .inl h), hA9⟩
  · have hne : ((n : Int) == (i : Int)) = false := by rw [beq_eq_false_iff_ne]; omega
    rw [if_pos hni, HN.out]
    have hsl := sw_len z77 L i n
    clear hn
    unfold fixL
    by_cases hd : i < (Heap.down z77 (lt ag) n (sw z77 L i n) i n).2
    · rw [if_pos hd]
      have hD := down_len ag n n (sw z77 L i n) i
      go_enter Try.func60, Try.ntmps60
      go_wp2_with (first
        | (go_at_call 72; refine (len_calls h).mono ?_; rintro e w8 ⟨rfl, n8, rfl⟩; rw [HE.out])
        | (go_at_call 123; refine (swap_calls (h.drewN n8) i n hi (by have := HN.out; omega)).mono ?_; rintro e w6 ⟨rfl, hQ6, hF6⟩)
        | (go_at_call 74; refine (down_calls hQ6 i n (by have := HN.out; omega) (by have := HN.out; omega) (by omega)).mono ?_; rintro e w7 ⟨rfl, hQ7, hF7⟩; rw [decide_eq_true hd])
        | (go_at_call 121; refine (pop_calls hQ7 (by omega)).mono ?_; rintro e w9 ⟨⟨q, rfl⟩, v9, hQ9, hF9, hA9⟩))
      go_ret
      rw [hD, hsl, HN.out] at hQ9
      exact ⟨⟨_, rfl⟩, v9, hQ9, Fr.then_ (Fr.then_ (Fr.then_ (Fr.drewN W n8) hF6 (fun _ h => .inl h)) hF7 (fun _ h => .inl h)) hF9 (fun _ h => .inl h), hA9⟩
    · rw [if_neg hd]
      have hD := down_len ag n n (sw z77 L i n) i
      have hU := up_len ag i (Heap.down z77 (lt ag) n (sw z77 L i n) i n).1 i
      go_enter Try.func60, Try.ntmps60
      go_wp2_with (first
        | (go_at_call 72; refine (len_calls h).mono ?_; rintro e w8 ⟨rfl, n8, rfl⟩; rw [HE.out])
        | (go_at_call 123; refine (swap_calls (h.drewN n8) i n hi (by have := HN.out; omega)).mono ?_; rintro e w6 ⟨rfl, hQ6, hF6⟩)
        | (go_at_call 74; refine (down_calls hQ6 i n (by have := HN.out; omega) (by have := HN.out; omega) (by omega)).mono ?_; rintro e w7 ⟨rfl, hQ7, hF7⟩; rw [decide_eq_false hd])
        | (go_at_call 73; refine (up_calls hQ7 i (by omega) (by omega)).mono ?_; rintro e w5 ⟨rfl, hQ5, hF5⟩)
        | (go_at_call 121; refine (pop_calls hQ5 (by omega)).mono ?_; rintro e w9 ⟨⟨q, rfl⟩, v9, hQ9, hF9, hA9⟩))
      go_ret
      rw [hU, hD, hsl, HN.out] at hQ9
      exact ⟨⟨_, rfl⟩, v9, hQ9, Fr.then_ (Fr.then_ (Fr.then_ (Fr.then_ (Fr.drewN W n8) hF6 (fun _ h => .inl h)) hF7 (fun _ h => .inl h)) hF5 (fun _ h => .inl h)) hF9 (fun _ h => .inl h), hA9⟩
end Go.Proofs.Ytfkebbkfmchnaaa.Ln
