/- plan.order as a comparison that lays blocks. Conditions: none. -/
import Derived.Test.YtboneknainlodaaCat
import Derived.Deep.RegionHeld3
import Derived.Sort.Grow
namespace Go.Proofs.Ytboneknainlodaa.Giv
open Go.Lib Go.Sort Go.RowKit Go.Maps Go.Proofs.Ytboneknainlodaa.PBase Go.Proofs.Ytboneknainlodaa.Cat Go.Proofs.YtboneknainlodaaW.PrintWords Go.Proofs.YtboneknainlodaaW.PrintLast Go.Proofs.YtboneknainlodaaW.PrintMore
/-- Blocks laid behind, and draws. -/
def Gr (W w' : World) : Prop := ∃ q os', w' = grow (W.drewN q) os'
theorem Gr.refl (W : World) : Gr W W := ⟨0, #[], by simp [grow, World.drewN]⟩
theorem Gr.alloc {W w : World} (h : Gr W w) (o : Obj) : Gr W (w.alloc o) := by
  obtain ⟨q, os, rfl⟩ := h
  exact ⟨q, os.push o, by simp [grow, World.alloc, Array.push_append]⟩
theorem Gr.drewN {W w : World} (h : Gr W w) (n : Nat) : Gr W (w.drewN n) := by
  obtain ⟨q, os, rfl⟩ := h
  exact ⟨q + n, os, by simp [grow, World.drewN, Nat.add_assoc]⟩
theorem Gr.drew {W w : World} (h : Gr W w) : Gr W w.drew := h.drewN 1
theorem C_two (W : World) (x y : Int) : Kd.C (Kd.int .i64) (W.alloc (.cells #[.int .i64 x, .int .i64 y] 3)) (some ⟨W.heap.size, 0, none⟩) 2 [x, y] := by
  refine ⟨rfl, by omega, fun _ => ⟨_, rfl, fun j p hj => ⟨[.int .i64 p], rfl, rfl, fun i u hu => ?_⟩⟩⟩
  match i with
  | 0 =>
    match j with
    | 0 => simp at hj hu; subst hj; subst hu; simp [Addr.add, Kd.int, Kd.scalar]
    | 1 => simp at hj hu; subst hj; subst hu; simp [Addr.add, Kd.int, Kd.scalar]
    | j + 2 => simp at hj
  | i + 1 => simp at hu
/-- What order tells, as a number. -/
def cf (a b : S32) : Int := (plan_order.f 4 a.f0 a.f1 b.f0 b.f1).getD 0
theorem cf_is (a b : S32) : ∃ t1 t2, cmp_Compare_uint64.f a.f1 b.f1 = some t1 ∧ cmp_Compare_int.f a.f0 b.f0 = some t2 ∧ cmp_Or_int.f 4 [t1, t2] = some (cf a b) := by
  obtain ⟨r, h1, _⟩ := order_is a b
  have hc : cf a b = r := by unfold cf; rw [h1]; rfl
  rw [hc]
  unfold plan_order.f at h1
  obtain ⟨t1, e1, h1⟩ := Option.bind_eq_some_iff.1 h1
  obtain ⟨t2, e2, h1⟩ := Option.bind_eq_some_iff.1 h1
  obtain ⟨t3, e3, h1⟩ := Option.bind_eq_some_iff.1 h1
  obtain rfl := Option.some.inj h1
  exact ⟨t1, t2, e1, e2, e3⟩
set_option maxHeartbeats 4000000 in
set_option maxRecDepth 100000 in
theorem order_lays (a b : S32) (W : World) : Calls Try.prog 20 #[.agg #[.int .i64 a.f0, .int .u64 a.f1], .agg #[.int .i64 b.f0, .int .u64 b.f1]] W fun e w' => e = .returned (.int .i64 (cf a b)) ∧ Gr W w' := by
  obtain ⟨t1, t2, A1, A2, A3⟩ := cf_is a b
  generalize cf a b = r at A3 ⊢
  have hG : Gr W ((W.alloc (.cells #[.int .i64 a.f0, .int .u64 a.f1] 32)).alloc (.cells #[.int .i64 b.f0, .int .u64 b.f1] 32)) := ((Gr.refl W).alloc _).alloc _
  go_enter Try.func20, Try.ntmps20
  go_wp2
  have hx0 : ((W.alloc (.cells #[.int .i64 a.f0, .int .u64 a.f1] 32)).alloc (.cells #[.int .i64 b.f0, .int .u64 b.f1] 32)).cell? ⟨W.heap.size, 0, none⟩ = some (.int .i64 a.f0) := by simp
  have hx1 : ((W.alloc (.cells #[.int .i64 a.f0, .int .u64 a.f1] 32)).alloc (.cells #[.int .i64 b.f0, .int .u64 b.f1] 32)).cell? ⟨W.heap.size, 1, none⟩ = some (.int .u64 a.f1) := by simp
  have hy0 : ((W.alloc (.cells #[.int .i64 a.f0, .int .u64 a.f1] 32)).alloc (.cells #[.int .i64 b.f0, .int .u64 b.f1] 32)).cell? ⟨W.heap.size + 1, 0, none⟩ = some (.int .i64 b.f0) := by simp
  have hy1 : ((W.alloc (.cells #[.int .i64 a.f0, .int .u64 a.f1] 32)).alloc (.cells #[.int .i64 b.f0, .int .u64 b.f1] 32)).cell? ⟨W.heap.size + 1, 1, none⟩ = some (.int .u64 b.f1) := by simp
  generalize (W.alloc (.cells #[.int .i64 a.f0, .int .u64 a.f1] 32)).alloc (.cells #[.int .i64 b.f0, .int .u64 b.f1] 32) = W0 at hG hx0 hx1 hy0 hy1 ⊢
  go_region_held3 (fun w' => w'.cell? ⟨W.heap.size, 0, none⟩ = some (.int .i64 a.f0) ∧ w'.cell? ⟨W.heap.size, 1, none⟩ = some (.int .u64 a.f1) ∧ w'.cell? ⟨W.heap.size + 1, 0, none⟩ = some (.int .i64 b.f0) ∧ w'.cell? ⟨W.heap.size + 1, 1, none⟩ = some (.int .u64 b.f1))
    (first | go_keep)
    (first
      | (go_at_call 30; refine (cmp_Compare_uint64.calls _ _ t1 _ A1).mono ?_; rintro e w7 ⟨rfl, n1, rfl⟩)
      | (go_at_call 31; refine (cmp_Compare_int.calls _ _ t2 _ A2).mono ?_; rintro e w7 ⟨rfl, n2, rfl⟩)
      | (go_at_call 29; refine (cmp_Or_int.calls 4 _ _ [t1, t2] r _ (C_two _ t1 t2) (Nat.le_refl _) A3).mono ?_; rintro e w7 ⟨rfl, n3, rfl⟩))
  go_wp2
  go_ret
  exact ⟨rfl, by repeat (first | exact hG | apply Gr.alloc | apply Gr.drewN | apply Gr.drew)⟩
end Go.Proofs.Ytboneknainlodaa.Giv
