/-
  The functions 'Bound' of fair and of the reference: what they tell.
-/
import Derived.Test.YthcmiceheohpjaaCmXZ
import Derived.Test.YthcmiceheohpjaaCmPA
namespace Go.Proofs.Ythcmiceheohpjaa.Cm
open Go.RowKit Go.IntWalk
attribute [local irreducible] Heap.set Heap.new Heap.kill Heap.get Cal WP

def boundS (k b n r : Int) : Int × Bool :=
  if k < 0 ∨ b < 0 ∨ n < 0 ∨ r < 0 then (0, false)
  else if k = 0 ∨ b = 0 ∨ (n = 0 ∧ r = 0) then (0, true)
  else if k > 2147483647 ∨ b > 2147483647 ∨ n > 2147483647 ∨ r > 2147483647 ∨ k * b > 2147483647 ∨ k * b * (n + r) > 2147483647 then (0, false)
  else (k * b * (n + r), true)

theorem mul_in {a b : Int} (A B : Int) (ha : 0 ≤ a ∧ a ≤ A) (hb : 0 ≤ b ∧ b ≤ B) (h : A * B ≤ 9223372036854775807) : -9223372036854775808 ≤ a * b ∧ a * b ≤ 9223372036854775807 := by
  have h1 : 0 ≤ a * b := Int.mul_nonneg ha.1 hb.1
  have h2 : a * b ≤ A * B := Int.mul_le_mul ha.2 hb.2 hb.1 (Int.le_trans ha.1 ha.2)
  omega

set_option maxHeartbeats 1000000 in
theorem bound_cal {k b n r : Int} {h : Heap} {Q : CVal → Heap → Prop} (hQ : Q (.tuple [.int .i64 (boundS k b n r).1, .bool (boundS k b n r).2]) h) :
    Cal tt 21 [.int .i64 k, .int .i64 b, .int .i64 n, .int .i64 r] h Q := by
  have nn : 0 ≤ k → 0 ≤ b → 0 ≤ k * b := Int.mul_nonneg
  refine Cal.run rfl rfl rfl rfl ?_
  (repeat' ((conv => whnf); (first
      | refine ARN.in (mul_in 2147483647 2147483647 (by omega) (by omega) (by decide)) ?_
      | refine ARN.in (mul_in 2147483647 4294967294 (by omega) (by omega) (by decide)) ?_
      | refine LTN.yes (by omega) ?_
      | refine LTN.no (by omega) ?_
      | refine LTN.mk (fun _ => ?_) (fun _ => ?_)
      | refine EQN.yes (by omega) ?_
      | refine EQN.no (by omega) ?_
      | refine EQN.mk (fun _ => ?_) (fun _ => ?_)
      | refine EQSN.yes (by first | rfl | assumption) ?_
      | refine EQSN.no (by first | decide | assumption) ?_
      | refine EQSN.mk (fun _ => ?_) (fun _ => ?_)
      | refine ARN.in (by omega) ?_
      | refine ARN.fits (by first | (apply u8_in; omega) | (apply i32_in; omega) | (apply u32_in; omega)) ?_
      | refine QUON.pos (by omega) ?_
      | refine REMN.pos (by omega) ?_
      | refine REMN.mk (by omega) ?_
      | refine GETN.mk (by ((repeat first | refine Heap.set_skip (by omega) ?_ | refine Heap.new_skip (by ((repeat first | refine Heap.nx_set ?_ | refine Heap.nx_new ?_ | refine Heap.nx_kill ?_); first | assumption | rfl)) (by omega) ?_ | refine Exd.skip (by assumption) (by omega) ?_); first | assumption | exact Heap.set_at (by omega) | exact Heap.new_at (by ((repeat first | refine Heap.nx_set ?_ | refine Heap.nx_new ?_ | refine Heap.nx_kill ?_); first | assumption | rfl)) (by omega))) ?_
      | refine GETM.mk (by ((repeat first | refine Heap.set_skip (by omega) ?_ | refine Heap.new_skip (by ((repeat first | refine Heap.nx_set ?_ | refine Heap.nx_new ?_ | refine Heap.nx_kill ?_); first | assumption | rfl)) (by omega) ?_ | refine Exd.skip (by assumption) (by omega) ?_); first | assumption | exact Heap.set_at (by omega) | exact Heap.new_at (by ((repeat first | refine Heap.nx_set ?_ | refine Heap.nx_new ?_ | refine Heap.nx_kill ?_); first | assumption | rfl)) (by omega))) ?_
      | refine NEWN.mk (by ((repeat first | refine Heap.nx_set ?_ | refine Heap.nx_new ?_ | refine Heap.nx_kill ?_); first | assumption | rfl)) ?_
      | refine SETN.mk (by ((repeat first | refine Heap.set_skip (by omega) ?_ | refine Heap.new_skip (by ((repeat first | refine Heap.nx_set ?_ | refine Heap.nx_new ?_ | refine Heap.nx_kill ?_); first | assumption | rfl)) (by omega) ?_ | refine Exd.skip (by assumption) (by omega) ?_); first | assumption | exact Heap.set_at (by omega) | exact Heap.new_at (by ((repeat first | refine Heap.nx_set ?_ | refine Heap.nx_new ?_ | refine Heap.nx_kill ?_); first | assumption | rfl)) (by omega))) (by rfl) (by (first | decide | (simp only [List.length_cons, List.length_nil, List.length_map, List.length_set, List.length_replicate, List.length_append]; omega) | (simp; done) | (simp; omega))) ?_
      | refine DOESN.mk (by first | rfl | omega | (simp; done) | (simp; omega)) ?_
      | refine BC.yes (by assumption) ?_
      | refine BC.no (by assumption) ?_
      | refine BC.split (fun _ => ?_) (fun _ => ?_)
      | refine SOMEN.mk (by rfl) ?_
      | refine scopeC ?_)))
  all_goals first
    | (rw [show boundS k b n r = (0, false) from by unfold boundS; (repeat' split) <;> first | rfl | (exfalso; omega)] at hQ; exact hQ)
    | (rw [show boundS k b n r = (0, true) from by unfold boundS; (repeat' split) <;> first | rfl | (exfalso; omega)] at hQ; exact hQ)
    | (rw [show boundS k b n r = (k * b * (n + r), true) from by unfold boundS; (repeat' split) <;> first | rfl | (exfalso; omega)] at hQ; exact hQ)

set_option maxHeartbeats 1000000 in
theorem boundR_cal {k b n r : Int} {h : Heap} {Q : CVal → Heap → Prop} (hQ : Q (.tuple [.int .i64 (boundS k b n r).1, .bool (boundS k b n r).2]) h) :
    Cal tt 22 [.int .i64 k, .int .i64 b, .int .i64 n, .int .i64 r] h Q := by
  have key : 0 < n + r → (2147483647 / (n + r) < k * b ↔ 2147483647 < k * b * (n + r)) := fun hc => Int.ediv_lt_iff_lt_mul hc
  have nn : 0 ≤ k → 0 ≤ b → 0 ≤ k * b := Int.mul_nonneg
  refine Cal.run rfl rfl rfl rfl ?_
  (repeat' ((conv => whnf); (first
      | refine ARN.in (mul_in 2147483647 2147483647 (by omega) (by omega) (by decide)) ?_
      | refine ARN.in (mul_in 2147483647 4294967294 (by omega) (by omega) (by decide)) ?_
      | refine LTN.yes (by omega) ?_
      | refine LTN.no (by omega) ?_
      | refine LTN.mk (fun _ => ?_) (fun _ => ?_)
      | refine EQN.yes (by omega) ?_
      | refine EQN.no (by omega) ?_
      | refine EQN.mk (fun _ => ?_) (fun _ => ?_)
      | refine EQSN.yes (by first | rfl | assumption) ?_
      | refine EQSN.no (by first | decide | assumption) ?_
      | refine EQSN.mk (fun _ => ?_) (fun _ => ?_)
      | refine ARN.in (by omega) ?_
      | refine ARN.fits (by first | (apply u8_in; omega) | (apply i32_in; omega) | (apply u32_in; omega)) ?_
      | refine QUON.pos (by omega) ?_
      | refine REMN.pos (by omega) ?_
      | refine REMN.mk (by omega) ?_
      | refine GETN.mk (by ((repeat first | refine Heap.set_skip (by omega) ?_ | refine Heap.new_skip (by ((repeat first | refine Heap.nx_set ?_ | refine Heap.nx_new ?_ | refine Heap.nx_kill ?_); first | assumption | rfl)) (by omega) ?_ | refine Exd.skip (by assumption) (by omega) ?_); first | assumption | exact Heap.set_at (by omega) | exact Heap.new_at (by ((repeat first | refine Heap.nx_set ?_ | refine Heap.nx_new ?_ | refine Heap.nx_kill ?_); first | assumption | rfl)) (by omega))) ?_
      | refine GETM.mk (by ((repeat first | refine Heap.set_skip (by omega) ?_ | refine Heap.new_skip (by ((repeat first | refine Heap.nx_set ?_ | refine Heap.nx_new ?_ | refine Heap.nx_kill ?_); first | assumption | rfl)) (by omega) ?_ | refine Exd.skip (by assumption) (by omega) ?_); first | assumption | exact Heap.set_at (by omega) | exact Heap.new_at (by ((repeat first | refine Heap.nx_set ?_ | refine Heap.nx_new ?_ | refine Heap.nx_kill ?_); first | assumption | rfl)) (by omega))) ?_
      | refine NEWN.mk (by ((repeat first | refine Heap.nx_set ?_ | refine Heap.nx_new ?_ | refine Heap.nx_kill ?_); first | assumption | rfl)) ?_
      | refine SETN.mk (by ((repeat first | refine Heap.set_skip (by omega) ?_ | refine Heap.new_skip (by ((repeat first | refine Heap.nx_set ?_ | refine Heap.nx_new ?_ | refine Heap.nx_kill ?_); first | assumption | rfl)) (by omega) ?_ | refine Exd.skip (by assumption) (by omega) ?_); first | assumption | exact Heap.set_at (by omega) | exact Heap.new_at (by ((repeat first | refine Heap.nx_set ?_ | refine Heap.nx_new ?_ | refine Heap.nx_kill ?_); first | assumption | rfl)) (by omega))) (by rfl) (by (first | decide | (simp only [List.length_cons, List.length_nil, List.length_map, List.length_set, List.length_replicate, List.length_append]; omega) | (simp; done) | (simp; omega))) ?_
      | refine DOESN.mk (by first | rfl | omega | (simp; done) | (simp; omega)) ?_
      | refine BC.yes (by assumption) ?_
      | refine BC.no (by assumption) ?_
      | refine BC.split (fun _ => ?_) (fun _ => ?_)
      | refine SOMEN.mk (by rfl) ?_
      | refine scopeC ?_)))
  all_goals first
    | (rw [show boundS k b n r = (0, false) from by unfold boundS; (repeat' split) <;> first | rfl | (exfalso; omega)] at hQ; exact hQ)
    | (rw [show boundS k b n r = (0, true) from by unfold boundS; (repeat' split) <;> first | rfl | (exfalso; omega)] at hQ; exact hQ)
    | (rw [show boundS k b n r = (k * b * (n + r), true) from by unfold boundS; (repeat' split) <;> first | rfl | (exfalso; omega)] at hQ; exact hQ)

/-- FairBounds: true. -/
theorem bounds_cal {k b n r : Int} {h : Heap} {Q : CVal → Heap → Prop} (hQ : Q (.bool true) h) : Cal tt 7 [.int .i64 k, .int .i64 b, .int .i64 n, .int .i64 r] h Q := by
  refine Cal.run rfl rfl rfl rfl ?_
  (repeat' ((conv => whnf); (first
      | refine CALLN.of (bound_cal ?_)
      | refine CALLN.of (boundR_cal ?_)
      | refine CALLN.of (awake34_cal ?_)
      | refine LTN.yes (by omega) ?_
      | refine LTN.no (by omega) ?_
      | refine LTN.mk (fun _ => ?_) (fun _ => ?_)
      | refine EQN.yes (by omega) ?_
      | refine EQN.no (by omega) ?_
      | refine EQN.mk (fun _ => ?_) (fun _ => ?_)
      | refine EQSN.yes (by first | rfl | assumption) ?_
      | refine EQSN.no (by first | decide | assumption) ?_
      | refine EQSN.mk (fun _ => ?_) (fun _ => ?_)
      | refine ARN.in (by omega) ?_
      | refine ARN.fits (by first | (apply u8_in; omega) | (apply i32_in; omega) | (apply u32_in; omega)) ?_
      | refine QUON.pos (by omega) ?_
      | refine REMN.pos (by omega) ?_
      | refine REMN.mk (by omega) ?_
      | refine GETN.mk (by ((repeat first | refine Heap.set_skip (by omega) ?_ | refine Heap.new_skip (by ((repeat first | refine Heap.nx_set ?_ | refine Heap.nx_new ?_ | refine Heap.nx_kill ?_); first | assumption | rfl)) (by omega) ?_ | refine Exd.skip (by assumption) (by omega) ?_); first | assumption | exact Heap.set_at (by omega) | exact Heap.new_at (by ((repeat first | refine Heap.nx_set ?_ | refine Heap.nx_new ?_ | refine Heap.nx_kill ?_); first | assumption | rfl)) (by omega))) ?_
      | refine GETM.mk (by ((repeat first | refine Heap.set_skip (by omega) ?_ | refine Heap.new_skip (by ((repeat first | refine Heap.nx_set ?_ | refine Heap.nx_new ?_ | refine Heap.nx_kill ?_); first | assumption | rfl)) (by omega) ?_ | refine Exd.skip (by assumption) (by omega) ?_); first | assumption | exact Heap.set_at (by omega) | exact Heap.new_at (by ((repeat first | refine Heap.nx_set ?_ | refine Heap.nx_new ?_ | refine Heap.nx_kill ?_); first | assumption | rfl)) (by omega))) ?_
      | refine NEWN.mk (by ((repeat first | refine Heap.nx_set ?_ | refine Heap.nx_new ?_ | refine Heap.nx_kill ?_); first | assumption | rfl)) ?_
      | refine SETN.mk (by ((repeat first | refine Heap.set_skip (by omega) ?_ | refine Heap.new_skip (by ((repeat first | refine Heap.nx_set ?_ | refine Heap.nx_new ?_ | refine Heap.nx_kill ?_); first | assumption | rfl)) (by omega) ?_ | refine Exd.skip (by assumption) (by omega) ?_); first | assumption | exact Heap.set_at (by omega) | exact Heap.new_at (by ((repeat first | refine Heap.nx_set ?_ | refine Heap.nx_new ?_ | refine Heap.nx_kill ?_); first | assumption | rfl)) (by omega))) (by rfl) (by (first | decide | (simp only [List.length_cons, List.length_nil, List.length_map, List.length_set, List.length_replicate, List.length_append]; omega) | (simp; done) | (simp; omega))) ?_
      | refine DOESN.mk (by first | rfl | omega | (simp; done) | (simp; omega)) ?_
      | refine BC.yes (by assumption) ?_
      | refine BC.no (by assumption) ?_
      | refine BC.split (fun _ => ?_) (fun _ => ?_)
      | refine SOMEN.mk (by rfl) ?_
      | refine scopeC ?_)))
  all_goals exact hQ

theorem law_bounds (k b n r : Int) (_ : (Lit.int .i64 k).wf = true) (_ : (Lit.int .i64 b).wf = true) (_ : (Lit.int .i64 n).wf = true) (_ : (Lit.int .i64 r).wf = true) (h : Heap) : Cal tt 7 [.int .i64 k, .int .i64 b, .int .i64 n, .int .i64 r] h fun v _ => v = .bool true :=
  bounds_cal rfl
end Go.Proofs.Ythcmiceheohpjaa.Cm
