/-
  The segments: what New, at, Take, Give, Free, Taken and Size do on the clean machine.
-/
import Derived.Test.YthcmiceheohpjaaCmYA
import Derived.Test.YthcmiceheohpjaaCmPA
namespace Go.Proofs.Ythcmiceheohpjaa.Cm
open Go.RowKit Go.IntWalk
attribute [local irreducible] Heap.set Heap.new Heap.kill Heap.get Heap.room Cal WP

theorem repC_bool (n : Nat) : repC n [.bool false] = (List.replicate n false).map CVal.bool := by
  induction n with
  | zero => rfl
  | succ n ih => rw [repC, ih, List.replicate_succ]; rfl

/-- Segments between two places, those that are taken. -/
structure IsSegs (h : Heap) (p b : Nat) (from_ size : Int) (l : List Bool) : Prop where
  hp : h.get p = some (.cells [.int .i64 from_, .int .i64 size, .slice b 0 l.length l.length] true none)
  hb : h.get b = some (.cells (l.map .bool) true none)
  ne : p ≠ b
  lp : p < h.next
  lb : b < h.next

theorem new_cal {f t s : Int} {h : Heap} {Q : CVal → Heap → Prop}
    (bad : (f < 0 ∨ f > t ∨ t > 8192 ∨ s < 1 ∨ s > 8192) → Q (.tuple [.nilPtr, .int .i64 1]) h)
    (ok : 0 ≤ f → f ≤ t → t ≤ 8192 → 1 ≤ s → s ≤ 8192 → ∀ h' p b, Exd h h' → h.next ≤ p → h.next ≤ b → IsSegs h' p b f s (List.replicate ((t - f) / s).toNat false) → Q (.tuple [.ptr p 0, .int .i64 0]) h') :
    Cal tt 9 [.int .i64 f, .int .i64 t, .int .i64 s] h Q := by
  have dv : 0 ≤ t - f → 1 ≤ s → 0 ≤ (t - f) / s ∧ (t - f) / s ≤ t - f := by
    intro h1 h2
    exact ⟨Int.ediv_nonneg h1 (by omega), Int.ediv_le_self _ h1⟩
  refine Cal.run rfl rfl rfl rfl ?_
  (repeat' ((conv => whnf); (first
      | refine LTN.yes (by omega) ?_
      | refine LTN.no (by omega) ?_
      | refine LTN.mk (fun _ => ?_) (fun _ => ?_)
      | refine EQN.yes (by omega) ?_
      | refine EQN.no (by omega) ?_
      | refine EQN.mk (fun _ => ?_) (fun _ => ?_)
      | refine EQSN.yes (by first | rfl | assumption) ?_
      | refine EQSN.no (by first | decide | assumption) ?_
      | refine EQSN.mk (fun _ => ?_) (fun _ => ?_)
      | refine ARN.in (by omega) ?_
      | refine ARN.fits (by first | (apply u8_in; omega) | (apply i32_in; omega) | (apply u32_in; omega)) ?_
      | refine QUON.pos (by omega) ?_
      | refine REMN.pos (by omega) ?_
      | refine REMN.mk (by omega) ?_
      | refine GETN.mk (by ((repeat first | refine Heap.room_get ?_ | refine Heap.set_skip (by omega) ?_ | refine Heap.new_skip (by ((repeat first | apply Heap.nx_set | apply Heap.nx_new | apply Heap.nx_kill | apply Heap.nx_room); first | assumption | rfl)) (by omega) ?_ | refine Exd.skip (by assumption) (by omega) ?_); first | assumption | exact Heap.set_at (by omega) | exact Heap.new_at (by ((repeat first | apply Heap.nx_set | apply Heap.nx_new | apply Heap.nx_kill | apply Heap.nx_room); first | assumption | rfl)) (by omega))) ?_
      | refine GETM.mk (by ((repeat first | refine Heap.room_get ?_ | refine Heap.set_skip (by omega) ?_ | refine Heap.new_skip (by ((repeat first | apply Heap.nx_set | apply Heap.nx_new | apply Heap.nx_kill | apply Heap.nx_room); first | assumption | rfl)) (by omega) ?_ | refine Exd.skip (by assumption) (by omega) ?_); first | assumption | exact Heap.set_at (by omega) | exact Heap.new_at (by ((repeat first | apply Heap.nx_set | apply Heap.nx_new | apply Heap.nx_kill | apply Heap.nx_room); first | assumption | rfl)) (by omega))) ?_
      | refine NEWN.mk (by ((repeat first | apply Heap.nx_set | apply Heap.nx_new | apply Heap.nx_kill | apply Heap.nx_room); first | assumption | rfl)) ?_
      | refine SETN.mk (by ((repeat first | refine Heap.room_get ?_ | refine Heap.set_skip (by omega) ?_ | refine Heap.new_skip (by ((repeat first | apply Heap.nx_set | apply Heap.nx_new | apply Heap.nx_kill | apply Heap.nx_room); first | assumption | rfl)) (by omega) ?_ | refine Exd.skip (by assumption) (by omega) ?_); first | assumption | exact Heap.set_at (by omega) | exact Heap.new_at (by ((repeat first | apply Heap.nx_set | apply Heap.nx_new | apply Heap.nx_kill | apply Heap.nx_room); first | assumption | rfl)) (by omega))) (by rfl) (by (first | decide | (simp; done) | (simp; omega))) ?_
      | refine DOESN.mk (by first | rfl | omega | (simp; done) | (simp; omega)) ?_
      | refine BC.yes (by assumption) ?_
      | refine BC.no (by assumption) ?_
      | refine BC.split (fun _ => ?_) (fun _ => ?_)
      | refine SOMEN.mk (by rfl) ?_
      | refine scopeC ?_
      | refine drawC0 (hist := fun _ => Heap.empty 0) rfl ?_
      | refine drawC (hist := fun _ => Heap.empty 0) rfl ?_
      | refine NUMN.mk (by ((repeat first | apply Heap.nx_set | apply Heap.nx_new | apply Heap.nx_kill | apply Heap.nx_room); first | assumption | rfl)) ?_
      | refine LOOKN.mk (by first | exact QV.load rfl (by ((repeat first | refine Heap.room_get ?_ | refine Heap.set_skip (by omega) ?_ | refine Heap.new_skip (by ((repeat first | apply Heap.nx_set | apply Heap.nx_new | apply Heap.nx_kill | apply Heap.nx_room); first | assumption | rfl)) (by omega) ?_ | refine Exd.skip (by assumption) (by omega) ?_); first | assumption | exact Heap.set_at (by omega) | exact Heap.new_at (by ((repeat first | apply Heap.nx_set | apply Heap.nx_new | apply Heap.nx_kill | apply Heap.nx_room); first | assumption | rfl)) (by omega))) (by rfl) | exact QV.loadA rfl (by ((repeat first | refine Heap.room_get ?_ | refine Heap.set_skip (by omega) ?_ | refine Heap.new_skip (by ((repeat first | apply Heap.nx_set | apply Heap.nx_new | apply Heap.nx_kill | apply Heap.nx_room); first | assumption | rfl)) (by omega) ?_ | refine Exd.skip (by assumption) (by omega) ?_); first | assumption | exact Heap.set_at (by omega) | exact Heap.new_at (by ((repeat first | apply Heap.nx_set | apply Heap.nx_new | apply Heap.nx_kill | apply Heap.nx_room); first | assumption | rfl)) (by omega))) (by rfl) (by rfl)) ?_)))
  all_goals first | exact bad (by omega) | skip
  refine ok (by omega) (by omega) (by omega) (by omega) (by omega) _ _ h.next (Exd.new (Exd.new (Exd.refl h))) ?_ ?_ ⟨?_, ?_, ?_, ?_, ?_⟩
  case refine_3 => rw [List.length_replicate]; ((repeat first | refine Heap.room_get ?_ | refine Heap.set_skip (by omega) ?_ | refine Heap.new_skip (by ((repeat first | apply Heap.nx_set | apply Heap.nx_new | apply Heap.nx_kill | apply Heap.nx_room); first | assumption | rfl)) (by omega) ?_ | refine Exd.skip (by assumption) (by omega) ?_); first | assumption | exact Heap.set_at (by omega) | exact Heap.new_at (by ((repeat first | apply Heap.nx_set | apply Heap.nx_new | apply Heap.nx_kill | apply Heap.nx_room); first | assumption | rfl)) (by omega))
  case refine_4 => rw [← repC_bool]; ((repeat first | refine Heap.room_get ?_ | refine Heap.set_skip (by omega) ?_ | refine Heap.new_skip (by ((repeat first | apply Heap.nx_set | apply Heap.nx_new | apply Heap.nx_kill | apply Heap.nx_room); first | assumption | rfl)) (by omega) ?_ | refine Exd.skip (by assumption) (by omega) ?_); first | assumption | exact Heap.set_at (by omega) | exact Heap.new_at (by ((repeat first | apply Heap.nx_set | apply Heap.nx_new | apply Heap.nx_kill | apply Heap.nx_room); first | assumption | rfl)) (by omega))
  all_goals (try simp only [Heap.next_new]); omega

/-- Where a segment begins. -/
theorem at_cal {p b : Nat} {f s : Int} {l : List Bool} {i : Int} {h : Heap} {Q : CVal → Heap → Prop} (hs : IsSegs h p b f s l) (hr : -9223372036854775808 ≤ i * s ∧ i * s ≤ 9223372036854775807) (hr' : -9223372036854775808 ≤ f + i * s ∧ f + i * s ≤ 9223372036854775807)
    (k : Q (.int .i64 (f + i * s)) h) : Cal tt 26 [.ptr p 0, .int .i64 i] h Q := by
  obtain ⟨hp, hb, ne, lp, lb⟩ := hs
  refine Cal.run rfl rfl rfl rfl ?_
  (repeat' ((conv => whnf); (first
      | refine ARN.in hr ?_
      | refine ARN.in hr' ?_
      | refine LTN.yes (by omega) ?_
      | refine LTN.no (by omega) ?_
      | refine LTN.mk (fun _ => ?_) (fun _ => ?_)
      | refine EQN.yes (by omega) ?_
      | refine EQN.no (by omega) ?_
      | refine EQN.mk (fun _ => ?_) (fun _ => ?_)
      | refine EQSN.yes (by first | rfl | assumption) ?_
      | refine EQSN.no (by first | decide | assumption) ?_
      | refine EQSN.mk (fun _ => ?_) (fun _ => ?_)
      | refine ARN.in (by omega) ?_
      | refine ARN.fits (by first | (apply u8_in; omega) | (apply i32_in; omega) | (apply u32_in; omega)) ?_
      | refine QUON.pos (by omega) ?_
      | refine REMN.pos (by omega) ?_
      | refine REMN.mk (by omega) ?_
      | refine GETN.mk (by ((repeat first | refine Heap.room_get ?_ | refine Heap.set_skip (by omega) ?_ | refine Heap.new_skip (by ((repeat first | apply Heap.nx_set | apply Heap.nx_new | apply Heap.nx_kill | apply Heap.nx_room); first | assumption | rfl)) (by omega) ?_ | refine Exd.skip (by assumption) (by omega) ?_); first | assumption | exact Heap.set_at (by omega) | exact Heap.new_at (by ((repeat first | apply Heap.nx_set | apply Heap.nx_new | apply Heap.nx_kill | apply Heap.nx_room); first | assumption | rfl)) (by omega))) ?_
      | refine GETM.mk (by ((repeat first | refine Heap.room_get ?_ | refine Heap.set_skip (by omega) ?_ | refine Heap.new_skip (by ((repeat first | apply Heap.nx_set | apply Heap.nx_new | apply Heap.nx_kill | apply Heap.nx_room); first | assumption | rfl)) (by omega) ?_ | refine Exd.skip (by assumption) (by omega) ?_); first | assumption | exact Heap.set_at (by omega) | exact Heap.new_at (by ((repeat first | apply Heap.nx_set | apply Heap.nx_new | apply Heap.nx_kill | apply Heap.nx_room); first | assumption | rfl)) (by omega))) ?_
      | refine NEWN.mk (by ((repeat first | apply Heap.nx_set | apply Heap.nx_new | apply Heap.nx_kill | apply Heap.nx_room); first | assumption | rfl)) ?_
      | refine SETN.mk (by ((repeat first | refine Heap.room_get ?_ | refine Heap.set_skip (by omega) ?_ | refine Heap.new_skip (by ((repeat first | apply Heap.nx_set | apply Heap.nx_new | apply Heap.nx_kill | apply Heap.nx_room); first | assumption | rfl)) (by omega) ?_ | refine Exd.skip (by assumption) (by omega) ?_); first | assumption | exact Heap.set_at (by omega) | exact Heap.new_at (by ((repeat first | apply Heap.nx_set | apply Heap.nx_new | apply Heap.nx_kill | apply Heap.nx_room); first | assumption | rfl)) (by omega))) (by rfl) (by (first | decide | (simp; done) | (simp; omega))) ?_
      | refine DOESN.mk (by first | rfl | omega | (simp; done) | (simp; omega)) ?_
      | refine BC.yes (by assumption) ?_
      | refine BC.no (by assumption) ?_
      | refine BC.split (fun _ => ?_) (fun _ => ?_)
      | refine SOMEN.mk (by rfl) ?_
      | refine scopeC ?_
      | refine drawC0 (hist := fun _ => Heap.empty 0) rfl ?_
      | refine drawC (hist := fun _ => Heap.empty 0) rfl ?_
      | refine NUMN.mk (by ((repeat first | apply Heap.nx_set | apply Heap.nx_new | apply Heap.nx_kill | apply Heap.nx_room); first | assumption | rfl)) ?_
      | refine LOOKN.mk (by first | exact QV.load rfl (by ((repeat first | refine Heap.room_get ?_ | refine Heap.set_skip (by omega) ?_ | refine Heap.new_skip (by ((repeat first | apply Heap.nx_set | apply Heap.nx_new | apply Heap.nx_kill | apply Heap.nx_room); first | assumption | rfl)) (by omega) ?_ | refine Exd.skip (by assumption) (by omega) ?_); first | assumption | exact Heap.set_at (by omega) | exact Heap.new_at (by ((repeat first | apply Heap.nx_set | apply Heap.nx_new | apply Heap.nx_kill | apply Heap.nx_room); first | assumption | rfl)) (by omega))) (by rfl) | exact QV.loadA rfl (by ((repeat first | refine Heap.room_get ?_ | refine Heap.set_skip (by omega) ?_ | refine Heap.new_skip (by ((repeat first | apply Heap.nx_set | apply Heap.nx_new | apply Heap.nx_kill | apply Heap.nx_room); first | assumption | rfl)) (by omega) ?_ | refine Exd.skip (by assumption) (by omega) ?_); first | assumption | exact Heap.set_at (by omega) | exact Heap.new_at (by ((repeat first | apply Heap.nx_set | apply Heap.nx_new | apply Heap.nx_kill | apply Heap.nx_room); first | assumption | rfl)) (by omega))) (by rfl) (by rfl)) ?_)))
  exact k

theorem size_cal {p b : Nat} {f s : Int} {l : List Bool} {h : Heap} {Q : CVal → Heap → Prop} (hs : IsSegs h p b f s l) (k : Q (.int .i64 s) h) : Cal tt 14 [.ptr p 0] h Q := by
  obtain ⟨hp, hb, ne, lp, lb⟩ := hs
  refine Cal.run rfl rfl rfl rfl ?_
  (repeat' ((conv => whnf); (first
      | refine LTN.yes (by omega) ?_
      | refine LTN.no (by omega) ?_
      | refine LTN.mk (fun _ => ?_) (fun _ => ?_)
      | refine EQN.yes (by omega) ?_
      | refine EQN.no (by omega) ?_
      | refine EQN.mk (fun _ => ?_) (fun _ => ?_)
      | refine EQSN.yes (by first | rfl | assumption) ?_
      | refine EQSN.no (by first | decide | assumption) ?_
      | refine EQSN.mk (fun _ => ?_) (fun _ => ?_)
      | refine ARN.in (by omega) ?_
      | refine ARN.fits (by first | (apply u8_in; omega) | (apply i32_in; omega) | (apply u32_in; omega)) ?_
      | refine QUON.pos (by omega) ?_
      | refine REMN.pos (by omega) ?_
      | refine REMN.mk (by omega) ?_
      | refine GETN.mk (by ((repeat first | refine Heap.room_get ?_ | refine Heap.set_skip (by omega) ?_ | refine Heap.new_skip (by ((repeat first | apply Heap.nx_set | apply Heap.nx_new | apply Heap.nx_kill | apply Heap.nx_room); first | assumption | rfl)) (by omega) ?_ | refine Exd.skip (by assumption) (by omega) ?_); first | assumption | exact Heap.set_at (by omega) | exact Heap.new_at (by ((repeat first | apply Heap.nx_set | apply Heap.nx_new | apply Heap.nx_kill | apply Heap.nx_room); first | assumption | rfl)) (by omega))) ?_
      | refine GETM.mk (by ((repeat first | refine Heap.room_get ?_ | refine Heap.set_skip (by omega) ?_ | refine Heap.new_skip (by ((repeat first | apply Heap.nx_set | apply Heap.nx_new | apply Heap.nx_kill | apply Heap.nx_room); first | assumption | rfl)) (by omega) ?_ | refine Exd.skip (by assumption) (by omega) ?_); first | assumption | exact Heap.set_at (by omega) | exact Heap.new_at (by ((repeat first | apply Heap.nx_set | apply Heap.nx_new | apply Heap.nx_kill | apply Heap.nx_room); first | assumption | rfl)) (by omega))) ?_
      | refine NEWN.mk (by ((repeat first | apply Heap.nx_set | apply Heap.nx_new | apply Heap.nx_kill | apply Heap.nx_room); first | assumption | rfl)) ?_
      | refine SETN.mk (by ((repeat first | refine Heap.room_get ?_ | refine Heap.set_skip (by omega) ?_ | refine Heap.new_skip (by ((repeat first | apply Heap.nx_set | apply Heap.nx_new | apply Heap.nx_kill | apply Heap.nx_room); first | assumption | rfl)) (by omega) ?_ | refine Exd.skip (by assumption) (by omega) ?_); first | assumption | exact Heap.set_at (by omega) | exact Heap.new_at (by ((repeat first | apply Heap.nx_set | apply Heap.nx_new | apply Heap.nx_kill | apply Heap.nx_room); first | assumption | rfl)) (by omega))) (by rfl) (by (first | decide | (simp; done) | (simp; omega))) ?_
      | refine DOESN.mk (by first | rfl | omega | (simp; done) | (simp; omega)) ?_
      | refine BC.yes (by assumption) ?_
      | refine BC.no (by assumption) ?_
      | refine BC.split (fun _ => ?_) (fun _ => ?_)
      | refine SOMEN.mk (by rfl) ?_
      | refine scopeC ?_
      | refine drawC0 (hist := fun _ => Heap.empty 0) rfl ?_
      | refine drawC (hist := fun _ => Heap.empty 0) rfl ?_
      | refine NUMN.mk (by ((repeat first | apply Heap.nx_set | apply Heap.nx_new | apply Heap.nx_kill | apply Heap.nx_room); first | assumption | rfl)) ?_
      | refine LOOKN.mk (by first | exact QV.load rfl (by ((repeat first | refine Heap.room_get ?_ | refine Heap.set_skip (by omega) ?_ | refine Heap.new_skip (by ((repeat first | apply Heap.nx_set | apply Heap.nx_new | apply Heap.nx_kill | apply Heap.nx_room); first | assumption | rfl)) (by omega) ?_ | refine Exd.skip (by assumption) (by omega) ?_); first | assumption | exact Heap.set_at (by omega) | exact Heap.new_at (by ((repeat first | apply Heap.nx_set | apply Heap.nx_new | apply Heap.nx_kill | apply Heap.nx_room); first | assumption | rfl)) (by omega))) (by rfl) | exact QV.loadA rfl (by ((repeat first | refine Heap.room_get ?_ | refine Heap.set_skip (by omega) ?_ | refine Heap.new_skip (by ((repeat first | apply Heap.nx_set | apply Heap.nx_new | apply Heap.nx_kill | apply Heap.nx_room); first | assumption | rfl)) (by omega) ?_ | refine Exd.skip (by assumption) (by omega) ?_); first | assumption | exact Heap.set_at (by omega) | exact Heap.new_at (by ((repeat first | apply Heap.nx_set | apply Heap.nx_new | apply Heap.nx_kill | apply Heap.nx_room); first | assumption | rfl)) (by omega))) (by rfl) (by rfl)) ?_)))
  exact k
theorem sizeN_cal {h : Heap} {Q : CVal → Heap → Prop} (k : Q (.int .i64 0) h) : Cal tt 14 [.nilPtr] h Q := by
  refine Cal.run rfl rfl rfl rfl ?_
  (repeat' ((conv => whnf); (first
      | refine LTN.yes (by omega) ?_
      | refine LTN.no (by omega) ?_
      | refine LTN.mk (fun _ => ?_) (fun _ => ?_)
      | refine EQN.yes (by omega) ?_
      | refine EQN.no (by omega) ?_
      | refine EQN.mk (fun _ => ?_) (fun _ => ?_)
      | refine EQSN.yes (by first | rfl | assumption) ?_
      | refine EQSN.no (by first | decide | assumption) ?_
      | refine EQSN.mk (fun _ => ?_) (fun _ => ?_)
      | refine ARN.in (by omega) ?_
      | refine ARN.fits (by first | (apply u8_in; omega) | (apply i32_in; omega) | (apply u32_in; omega)) ?_
      | refine QUON.pos (by omega) ?_
      | refine REMN.pos (by omega) ?_
      | refine REMN.mk (by omega) ?_
      | refine GETN.mk (by ((repeat first | refine Heap.room_get ?_ | refine Heap.set_skip (by omega) ?_ | refine Heap.new_skip (by ((repeat first | apply Heap.nx_set | apply Heap.nx_new | apply Heap.nx_kill | apply Heap.nx_room); first | assumption | rfl)) (by omega) ?_ | refine Exd.skip (by assumption) (by omega) ?_); first | assumption | exact Heap.set_at (by omega) | exact Heap.new_at (by ((repeat first | apply Heap.nx_set | apply Heap.nx_new | apply Heap.nx_kill | apply Heap.nx_room); first | assumption | rfl)) (by omega))) ?_
      | refine GETM.mk (by ((repeat first | refine Heap.room_get ?_ | refine Heap.set_skip (by omega) ?_ | refine Heap.new_skip (by ((repeat first | apply Heap.nx_set | apply Heap.nx_new | apply Heap.nx_kill | apply Heap.nx_room); first | assumption | rfl)) (by omega) ?_ | refine Exd.skip (by assumption) (by omega) ?_); first | assumption | exact Heap.set_at (by omega) | exact Heap.new_at (by ((repeat first | apply Heap.nx_set | apply Heap.nx_new | apply Heap.nx_kill | apply Heap.nx_room); first | assumption | rfl)) (by omega))) ?_
      | refine NEWN.mk (by ((repeat first | apply Heap.nx_set | apply Heap.nx_new | apply Heap.nx_kill | apply Heap.nx_room); first | assumption | rfl)) ?_
      | refine SETN.mk (by ((repeat first | refine Heap.room_get ?_ | refine Heap.set_skip (by omega) ?_ | refine Heap.new_skip (by ((repeat first | apply Heap.nx_set | apply Heap.nx_new | apply Heap.nx_kill | apply Heap.nx_room); first | assumption | rfl)) (by omega) ?_ | refine Exd.skip (by assumption) (by omega) ?_); first | assumption | exact Heap.set_at (by omega) | exact Heap.new_at (by ((repeat first | apply Heap.nx_set | apply Heap.nx_new | apply Heap.nx_kill | apply Heap.nx_room); first | assumption | rfl)) (by omega))) (by rfl) (by (first | decide | (simp; done) | (simp; omega))) ?_
      | refine DOESN.mk (by first | rfl | omega | (simp; done) | (simp; omega)) ?_
      | refine BC.yes (by assumption) ?_
      | refine BC.no (by assumption) ?_
      | refine BC.split (fun _ => ?_) (fun _ => ?_)
      | refine SOMEN.mk (by rfl) ?_
      | refine scopeC ?_
      | refine drawC0 (hist := fun _ => Heap.empty 0) rfl ?_
      | refine drawC (hist := fun _ => Heap.empty 0) rfl ?_
      | refine NUMN.mk (by ((repeat first | apply Heap.nx_set | apply Heap.nx_new | apply Heap.nx_kill | apply Heap.nx_room); first | assumption | rfl)) ?_
      | refine LOOKN.mk (by first | exact QV.load rfl (by ((repeat first | refine Heap.room_get ?_ | refine Heap.set_skip (by omega) ?_ | refine Heap.new_skip (by ((repeat first | apply Heap.nx_set | apply Heap.nx_new | apply Heap.nx_kill | apply Heap.nx_room); first | assumption | rfl)) (by omega) ?_ | refine Exd.skip (by assumption) (by omega) ?_); first | assumption | exact Heap.set_at (by omega) | exact Heap.new_at (by ((repeat first | apply Heap.nx_set | apply Heap.nx_new | apply Heap.nx_kill | apply Heap.nx_room); first | assumption | rfl)) (by omega))) (by rfl) | exact QV.loadA rfl (by ((repeat first | refine Heap.room_get ?_ | refine Heap.set_skip (by omega) ?_ | refine Heap.new_skip (by ((repeat first | apply Heap.nx_set | apply Heap.nx_new | apply Heap.nx_kill | apply Heap.nx_room); first | assumption | rfl)) (by omega) ?_ | refine Exd.skip (by assumption) (by omega) ?_); first | assumption | exact Heap.set_at (by omega) | exact Heap.new_at (by ((repeat first | apply Heap.nx_set | apply Heap.nx_new | apply Heap.nx_kill | apply Heap.nx_room); first | assumption | rfl)) (by omega))) (by rfl) (by rfl)) ?_)))
  exact k

/-- Of none: nothing is handed on. -/
theorem thoseN_cal {b : Bool} {y : CVal} {h : Heap} {Q : CVal → Heap → Prop} (k : Q (.tuple []) h) : Cal tt 24 [.nilPtr, .bool b, y] h Q := by
  refine Cal.run rfl rfl rfl rfl ?_
  (repeat' ((conv => whnf); (first
      | refine LTN.yes (by omega) ?_
      | refine LTN.no (by omega) ?_
      | refine LTN.mk (fun _ => ?_) (fun _ => ?_)
      | refine EQN.yes (by omega) ?_
      | refine EQN.no (by omega) ?_
      | refine EQN.mk (fun _ => ?_) (fun _ => ?_)
      | refine EQSN.yes (by first | rfl | assumption) ?_
      | refine EQSN.no (by first | decide | assumption) ?_
      | refine EQSN.mk (fun _ => ?_) (fun _ => ?_)
      | refine ARN.in (by omega) ?_
      | refine ARN.fits (by first | (apply u8_in; omega) | (apply i32_in; omega) | (apply u32_in; omega)) ?_
      | refine QUON.pos (by omega) ?_
      | refine REMN.pos (by omega) ?_
      | refine REMN.mk (by omega) ?_
      | refine GETN.mk (by ((repeat first | refine Heap.room_get ?_ | refine Heap.set_skip (by omega) ?_ | refine Heap.new_skip (by ((repeat first | apply Heap.nx_set | apply Heap.nx_new | apply Heap.nx_kill | apply Heap.nx_room); first | assumption | rfl)) (by omega) ?_ | refine Exd.skip (by assumption) (by omega) ?_); first | assumption | exact Heap.set_at (by omega) | exact Heap.new_at (by ((repeat first | apply Heap.nx_set | apply Heap.nx_new | apply Heap.nx_kill | apply Heap.nx_room); first | assumption | rfl)) (by omega))) ?_
      | refine GETM.mk (by ((repeat first | refine Heap.room_get ?_ | refine Heap.set_skip (by omega) ?_ | refine Heap.new_skip (by ((repeat first | apply Heap.nx_set | apply Heap.nx_new | apply Heap.nx_kill | apply Heap.nx_room); first | assumption | rfl)) (by omega) ?_ | refine Exd.skip (by assumption) (by omega) ?_); first | assumption | exact Heap.set_at (by omega) | exact Heap.new_at (by ((repeat first | apply Heap.nx_set | apply Heap.nx_new | apply Heap.nx_kill | apply Heap.nx_room); first | assumption | rfl)) (by omega))) ?_
      | refine NEWN.mk (by ((repeat first | apply Heap.nx_set | apply Heap.nx_new | apply Heap.nx_kill | apply Heap.nx_room); first | assumption | rfl)) ?_
      | refine SETN.mk (by ((repeat first | refine Heap.room_get ?_ | refine Heap.set_skip (by omega) ?_ | refine Heap.new_skip (by ((repeat first | apply Heap.nx_set | apply Heap.nx_new | apply Heap.nx_kill | apply Heap.nx_room); first | assumption | rfl)) (by omega) ?_ | refine Exd.skip (by assumption) (by omega) ?_); first | assumption | exact Heap.set_at (by omega) | exact Heap.new_at (by ((repeat first | apply Heap.nx_set | apply Heap.nx_new | apply Heap.nx_kill | apply Heap.nx_room); first | assumption | rfl)) (by omega))) (by rfl) (by (first | decide | (simp; done) | (simp; omega))) ?_
      | refine DOESN.mk (by first | rfl | omega | (simp; done) | (simp; omega)) ?_
      | refine BC.yes (by assumption) ?_
      | refine BC.no (by assumption) ?_
      | refine BC.split (fun _ => ?_) (fun _ => ?_)
      | refine SOMEN.mk (by rfl) ?_
      | refine scopeC ?_
      | refine drawC0 (hist := fun _ => Heap.empty 0) rfl ?_
      | refine drawC (hist := fun _ => Heap.empty 0) rfl ?_
      | refine NUMN.mk (by ((repeat first | apply Heap.nx_set | apply Heap.nx_new | apply Heap.nx_kill | apply Heap.nx_room); first | assumption | rfl)) ?_
      | refine LOOKN.mk (by first | exact QV.load rfl (by ((repeat first | refine Heap.room_get ?_ | refine Heap.set_skip (by omega) ?_ | refine Heap.new_skip (by ((repeat first | apply Heap.nx_set | apply Heap.nx_new | apply Heap.nx_kill | apply Heap.nx_room); first | assumption | rfl)) (by omega) ?_ | refine Exd.skip (by assumption) (by omega) ?_); first | assumption | exact Heap.set_at (by omega) | exact Heap.new_at (by ((repeat first | apply Heap.nx_set | apply Heap.nx_new | apply Heap.nx_kill | apply Heap.nx_room); first | assumption | rfl)) (by omega))) (by rfl) | exact QV.loadA rfl (by ((repeat first | refine Heap.room_get ?_ | refine Heap.set_skip (by omega) ?_ | refine Heap.new_skip (by ((repeat first | apply Heap.nx_set | apply Heap.nx_new | apply Heap.nx_kill | apply Heap.nx_room); first | assumption | rfl)) (by omega) ?_ | refine Exd.skip (by assumption) (by omega) ?_); first | assumption | exact Heap.set_at (by omega) | exact Heap.new_at (by ((repeat first | apply Heap.nx_set | apply Heap.nx_new | apply Heap.nx_kill | apply Heap.nx_room); first | assumption | rfl)) (by omega))) (by rfl) (by rfl)) ?_)))
  exact k

/-- Each segment that is so is handed on, till it is told to stop. -/
theorem those_cal {p b : Nat} {f s : Int} {l : List Bool} {taken : Bool} {g : FuncId} {first cap : List CVal} {h : Heap} {Q : CVal → Heap → Prop} (I : Nat → Heap → Prop) (E : Heap → Prop) (hl : (l.length : Int) ≤ 9223372036854775807)
    (hI : ∀ i h, I i h → h.get b = some (.cells (l.map .bool) true none)) (h0 : I 0 h) (hs : IsSegs h p b f s l)
    (pass : ∀ i h (hi : i < l.length), l[i] ≠ taken → I i h → I (i + 1) h)
    (stop : ∀ i h (hi : i < l.length), l[i] = taken → I i h → Cal tt g (first ++ [.int .i64 i] ++ cap) h fun v h' => (v = .bool true ∧ I (i + 1) h') ∨ (v = .bool false ∧ E h'))
    (last : ∀ h, I l.length h → E h) (k : ∀ h', E h' → Q (.tuple []) h') : Cal tt 24 [.ptr p 0, .bool taken, .func g first cap] h Q := by
  obtain ⟨hp, hb, ne, lp, lb⟩ := hs
  refine Cal.run rfl rfl rfl rfl ?_
  cases taken
  all_goals
    (repeat' ((conv => whnf); (first
      | refine LTN.yes (by omega) ?_
      | refine LTN.no (by omega) ?_
      | refine LTN.mk (fun _ => ?_) (fun _ => ?_)
      | refine EQN.yes (by omega) ?_
      | refine EQN.no (by omega) ?_
      | refine EQN.mk (fun _ => ?_) (fun _ => ?_)
      | refine EQSN.yes (by first | rfl | assumption) ?_
      | refine EQSN.no (by first | decide | assumption) ?_
      | refine EQSN.mk (fun _ => ?_) (fun _ => ?_)
      | refine ARN.in (by omega) ?_
      | refine ARN.fits (by first | (apply u8_in; omega) | (apply i32_in; omega) | (apply u32_in; omega)) ?_
      | refine QUON.pos (by omega) ?_
      | refine REMN.pos (by omega) ?_
      | refine REMN.mk (by omega) ?_
      | refine GETN.mk (by ((repeat first | refine Heap.room_get ?_ | refine Heap.set_skip (by omega) ?_ | refine Heap.new_skip (by ((repeat first | apply Heap.nx_set | apply Heap.nx_new | apply Heap.nx_kill | apply Heap.nx_room); first | assumption | rfl)) (by omega) ?_ | refine Exd.skip (by assumption) (by omega) ?_); first | assumption | exact Heap.set_at (by omega) | exact Heap.new_at (by ((repeat first | apply Heap.nx_set | apply Heap.nx_new | apply Heap.nx_kill | apply Heap.nx_room); first | assumption | rfl)) (by omega))) ?_
      | refine GETM.mk (by ((repeat first | refine Heap.room_get ?_ | refine Heap.set_skip (by omega) ?_ | refine Heap.new_skip (by ((repeat first | apply Heap.nx_set | apply Heap.nx_new | apply Heap.nx_kill | apply Heap.nx_room); first | assumption | rfl)) (by omega) ?_ | refine Exd.skip (by assumption) (by omega) ?_); first | assumption | exact Heap.set_at (by omega) | exact Heap.new_at (by ((repeat first | apply Heap.nx_set | apply Heap.nx_new | apply Heap.nx_kill | apply Heap.nx_room); first | assumption | rfl)) (by omega))) ?_
      | refine NEWN.mk (by ((repeat first | apply Heap.nx_set | apply Heap.nx_new | apply Heap.nx_kill | apply Heap.nx_room); first | assumption | rfl)) ?_
      | refine SETN.mk (by ((repeat first | refine Heap.room_get ?_ | refine Heap.set_skip (by omega) ?_ | refine Heap.new_skip (by ((repeat first | apply Heap.nx_set | apply Heap.nx_new | apply Heap.nx_kill | apply Heap.nx_room); first | assumption | rfl)) (by omega) ?_ | refine Exd.skip (by assumption) (by omega) ?_); first | assumption | exact Heap.set_at (by omega) | exact Heap.new_at (by ((repeat first | apply Heap.nx_set | apply Heap.nx_new | apply Heap.nx_kill | apply Heap.nx_room); first | assumption | rfl)) (by omega))) (by rfl) (by (first | decide | (simp; done) | (simp; omega))) ?_
      | refine DOESN.mk (by first | rfl | omega | (simp; done) | (simp; omega)) ?_
      | refine BC.yes (by assumption) ?_
      | refine BC.no (by assumption) ?_
      | refine BC.split (fun _ => ?_) (fun _ => ?_)
      | refine SOMEN.mk (by rfl) ?_
      | refine scopeC ?_
      | refine drawC0 (hist := fun _ => Heap.empty 0) rfl ?_
      | refine drawC (hist := fun _ => Heap.empty 0) rfl ?_
      | refine NUMN.mk (by ((repeat first | apply Heap.nx_set | apply Heap.nx_new | apply Heap.nx_kill | apply Heap.nx_room); first | assumption | rfl)) ?_
      | refine LOOKN.mk (by first | exact QV.load rfl (by ((repeat first | refine Heap.room_get ?_ | refine Heap.set_skip (by omega) ?_ | refine Heap.new_skip (by ((repeat first | apply Heap.nx_set | apply Heap.nx_new | apply Heap.nx_kill | apply Heap.nx_room); first | assumption | rfl)) (by omega) ?_ | refine Exd.skip (by assumption) (by omega) ?_); first | assumption | exact Heap.set_at (by omega) | exact Heap.new_at (by ((repeat first | apply Heap.nx_set | apply Heap.nx_new | apply Heap.nx_kill | apply Heap.nx_room); first | assumption | rfl)) (by omega))) (by rfl) | exact QV.loadA rfl (by ((repeat first | refine Heap.room_get ?_ | refine Heap.set_skip (by omega) ?_ | refine Heap.new_skip (by ((repeat first | apply Heap.nx_set | apply Heap.nx_new | apply Heap.nx_kill | apply Heap.nx_room); first | assumption | rfl)) (by omega) ?_ | refine Exd.skip (by assumption) (by omega) ?_); first | assumption | exact Heap.set_at (by omega) | exact Heap.new_at (by ((repeat first | apply Heap.nx_set | apply Heap.nx_new | apply Heap.nx_kill | apply Heap.nx_room); first | assumption | rfl)) (by omega))) (by rfl) (by rfl)) ?_)))
    refine loopC (fun i : Nat => [(1, .bool _), (2, .func g first cap), (13, .slice b 0 l.length l.length), (14, .int .i64 l.length), (15, .int .i64 i)]) (fun i h => I i h ∧ i ≤ l.length) (fun i => l.length - i) 0 ⟨rfl, rfl, rfl, rfl, rfl, trivial⟩ ⟨h0, Nat.zero_le _⟩ ?_
    rintro i ρ h ⟨hi, hle⟩
    have hb := hI i h hi
    (repeat' ((conv => whnf); (first
      | refine AT.of (at_map (by omega)) ?_
      | refine argsK_any ?_
      | refine LTN.yes (by omega) ?_
      | refine LTN.no (by omega) ?_
      | refine LTN.mk (fun _ => ?_) (fun _ => ?_)
      | refine EQN.yes (by omega) ?_
      | refine EQN.no (by omega) ?_
      | refine EQN.mk (fun _ => ?_) (fun _ => ?_)
      | refine EQSN.yes (by first | rfl | assumption) ?_
      | refine EQSN.no (by first | decide | assumption) ?_
      | refine EQSN.mk (fun _ => ?_) (fun _ => ?_)
      | refine ARN.in (by omega) ?_
      | refine ARN.fits (by first | (apply u8_in; omega) | (apply i32_in; omega) | (apply u32_in; omega)) ?_
      | refine QUON.pos (by omega) ?_
      | refine REMN.pos (by omega) ?_
      | refine REMN.mk (by omega) ?_
      | refine GETN.mk (by ((repeat first | refine Heap.room_get ?_ | refine Heap.set_skip (by omega) ?_ | refine Heap.new_skip (by ((repeat first | apply Heap.nx_set | apply Heap.nx_new | apply Heap.nx_kill | apply Heap.nx_room); first | assumption | rfl)) (by omega) ?_ | refine Exd.skip (by assumption) (by omega) ?_); first | assumption | exact Heap.set_at (by omega) | exact Heap.new_at (by ((repeat first | apply Heap.nx_set | apply Heap.nx_new | apply Heap.nx_kill | apply Heap.nx_room); first | assumption | rfl)) (by omega))) ?_
      | refine GETM.mk (by ((repeat first | refine Heap.room_get ?_ | refine Heap.set_skip (by omega) ?_ | refine Heap.new_skip (by ((repeat first | apply Heap.nx_set | apply Heap.nx_new | apply Heap.nx_kill | apply Heap.nx_room); first | assumption | rfl)) (by omega) ?_ | refine Exd.skip (by assumption) (by omega) ?_); first | assumption | exact Heap.set_at (by omega) | exact Heap.new_at (by ((repeat first | apply Heap.nx_set | apply Heap.nx_new | apply Heap.nx_kill | apply Heap.nx_room); first | assumption | rfl)) (by omega))) ?_
      | refine NEWN.mk (by ((repeat first | apply Heap.nx_set | apply Heap.nx_new | apply Heap.nx_kill | apply Heap.nx_room); first | assumption | rfl)) ?_
      | refine SETN.mk (by ((repeat first | refine Heap.room_get ?_ | refine Heap.set_skip (by omega) ?_ | refine Heap.new_skip (by ((repeat first | apply Heap.nx_set | apply Heap.nx_new | apply Heap.nx_kill | apply Heap.nx_room); first | assumption | rfl)) (by omega) ?_ | refine Exd.skip (by assumption) (by omega) ?_); first | assumption | exact Heap.set_at (by omega) | exact Heap.new_at (by ((repeat first | apply Heap.nx_set | apply Heap.nx_new | apply Heap.nx_kill | apply Heap.nx_room); first | assumption | rfl)) (by omega))) (by rfl) (by (first | decide | (simp; done) | (simp; omega))) ?_
      | refine DOESN.mk (by first | rfl | omega | (simp; done) | (simp; omega)) ?_
      | refine BC.yes (by assumption) ?_
      | refine BC.no (by assumption) ?_
      | refine BC.split (fun _ => ?_) (fun _ => ?_)
      | refine SOMEN.mk (by rfl) ?_
      | refine scopeC ?_
      | refine drawC0 (hist := fun _ => Heap.empty 0) rfl ?_
      | refine drawC (hist := fun _ => Heap.empty 0) rfl ?_
      | refine NUMN.mk (by ((repeat first | apply Heap.nx_set | apply Heap.nx_new | apply Heap.nx_kill | apply Heap.nx_room); first | assumption | rfl)) ?_
      | refine LOOKN.mk (by first | exact QV.load rfl (by ((repeat first | refine Heap.room_get ?_ | refine Heap.set_skip (by omega) ?_ | refine Heap.new_skip (by ((repeat first | apply Heap.nx_set | apply Heap.nx_new | apply Heap.nx_kill | apply Heap.nx_room); first | assumption | rfl)) (by omega) ?_ | refine Exd.skip (by assumption) (by omega) ?_); first | assumption | exact Heap.set_at (by omega) | exact Heap.new_at (by ((repeat first | apply Heap.nx_set | apply Heap.nx_new | apply Heap.nx_kill | apply Heap.nx_room); first | assumption | rfl)) (by omega))) (by rfl) | exact QV.loadA rfl (by ((repeat first | refine Heap.room_get ?_ | refine Heap.set_skip (by omega) ?_ | refine Heap.new_skip (by ((repeat first | apply Heap.nx_set | apply Heap.nx_new | apply Heap.nx_kill | apply Heap.nx_room); first | assumption | rfl)) (by omega) ?_ | refine Exd.skip (by assumption) (by omega) ?_); first | assumption | exact Heap.set_at (by omega) | exact Heap.new_at (by ((repeat first | apply Heap.nx_set | apply Heap.nx_new | apply Heap.nx_kill | apply Heap.nx_room); first | assumption | rfl)) (by omega))) (by rfl) (by rfl)) ?_)))
    all_goals first
      | exact k _ (last _ ((show i = l.length from by omega) ▸ hi))
      | exact ⟨rfl, i + 1, ⟨rfl, rfl, rfl, rfl, rfl, trivial⟩, ⟨pass i h (by omega) (by simp [*]) hi, by omega⟩, by omega⟩
      | skip
    refine CALLN.of ((stop i h (by omega) (by assumption) hi).mono ?_)
    rintro v h' (⟨rfl, hi'⟩ | ⟨rfl, he⟩)
    all_goals (repeat' ((conv => whnf); (first
      | refine LTN.yes (by omega) ?_
      | refine LTN.no (by omega) ?_
      | refine LTN.mk (fun _ => ?_) (fun _ => ?_)
      | refine EQN.yes (by omega) ?_
      | refine EQN.no (by omega) ?_
      | refine EQN.mk (fun _ => ?_) (fun _ => ?_)
      | refine EQSN.yes (by first | rfl | assumption) ?_
      | refine EQSN.no (by first | decide | assumption) ?_
      | refine EQSN.mk (fun _ => ?_) (fun _ => ?_)
      | refine ARN.in (by omega) ?_
      | refine ARN.fits (by first | (apply u8_in; omega) | (apply i32_in; omega) | (apply u32_in; omega)) ?_
      | refine QUON.pos (by omega) ?_
      | refine REMN.pos (by omega) ?_
      | refine REMN.mk (by omega) ?_
      | refine GETN.mk (by ((repeat first | refine Heap.room_get ?_ | refine Heap.set_skip (by omega) ?_ | refine Heap.new_skip (by ((repeat first | apply Heap.nx_set | apply Heap.nx_new | apply Heap.nx_kill | apply Heap.nx_room); first | assumption | rfl)) (by omega) ?_ | refine Exd.skip (by assumption) (by omega) ?_); first | assumption | exact Heap.set_at (by omega) | exact Heap.new_at (by ((repeat first | apply Heap.nx_set | apply Heap.nx_new | apply Heap.nx_kill | apply Heap.nx_room); first | assumption | rfl)) (by omega))) ?_
      | refine GETM.mk (by ((repeat first | refine Heap.room_get ?_ | refine Heap.set_skip (by omega) ?_ | refine Heap.new_skip (by ((repeat first | apply Heap.nx_set | apply Heap.nx_new | apply Heap.nx_kill | apply Heap.nx_room); first | assumption | rfl)) (by omega) ?_ | refine Exd.skip (by assumption) (by omega) ?_); first | assumption | exact Heap.set_at (by omega) | exact Heap.new_at (by ((repeat first | apply Heap.nx_set | apply Heap.nx_new | apply Heap.nx_kill | apply Heap.nx_room); first | assumption | rfl)) (by omega))) ?_
      | refine NEWN.mk (by ((repeat first | apply Heap.nx_set | apply Heap.nx_new | apply Heap.nx_kill | apply Heap.nx_room); first | assumption | rfl)) ?_
      | refine SETN.mk (by ((repeat first | refine Heap.room_get ?_ | refine Heap.set_skip (by omega) ?_ | refine Heap.new_skip (by ((repeat first | apply Heap.nx_set | apply Heap.nx_new | apply Heap.nx_kill | apply Heap.nx_room); first | assumption | rfl)) (by omega) ?_ | refine Exd.skip (by assumption) (by omega) ?_); first | assumption | exact Heap.set_at (by omega) | exact Heap.new_at (by ((repeat first | apply Heap.nx_set | apply Heap.nx_new | apply Heap.nx_kill | apply Heap.nx_room); first | assumption | rfl)) (by omega))) (by rfl) (by (first | decide | (simp; done) | (simp; omega))) ?_
      | refine DOESN.mk (by first | rfl | omega | (simp; done) | (simp; omega)) ?_
      | refine BC.yes (by assumption) ?_
      | refine BC.no (by assumption) ?_
      | refine BC.split (fun _ => ?_) (fun _ => ?_)
      | refine SOMEN.mk (by rfl) ?_
      | refine scopeC ?_
      | refine drawC0 (hist := fun _ => Heap.empty 0) rfl ?_
      | refine drawC (hist := fun _ => Heap.empty 0) rfl ?_
      | refine NUMN.mk (by ((repeat first | apply Heap.nx_set | apply Heap.nx_new | apply Heap.nx_kill | apply Heap.nx_room); first | assumption | rfl)) ?_
      | refine LOOKN.mk (by first | exact QV.load rfl (by ((repeat first | refine Heap.room_get ?_ | refine Heap.set_skip (by omega) ?_ | refine Heap.new_skip (by ((repeat first | apply Heap.nx_set | apply Heap.nx_new | apply Heap.nx_kill | apply Heap.nx_room); first | assumption | rfl)) (by omega) ?_ | refine Exd.skip (by assumption) (by omega) ?_); first | assumption | exact Heap.set_at (by omega) | exact Heap.new_at (by ((repeat first | apply Heap.nx_set | apply Heap.nx_new | apply Heap.nx_kill | apply Heap.nx_room); first | assumption | rfl)) (by omega))) (by rfl) | exact QV.loadA rfl (by ((repeat first | refine Heap.room_get ?_ | refine Heap.set_skip (by omega) ?_ | refine Heap.new_skip (by ((repeat first | apply Heap.nx_set | apply Heap.nx_new | apply Heap.nx_kill | apply Heap.nx_room); first | assumption | rfl)) (by omega) ?_ | refine Exd.skip (by assumption) (by omega) ?_); first | assumption | exact Heap.set_at (by omega) | exact Heap.new_at (by ((repeat first | apply Heap.nx_set | apply Heap.nx_new | apply Heap.nx_kill | apply Heap.nx_room); first | assumption | rfl)) (by omega))) (by rfl) (by rfl)) ?_)))
    · exact ⟨rfl, i + 1, ⟨rfl, rfl, rfl, rfl, rfl, trivial⟩, ⟨hi', by omega⟩, by omega⟩
    · exact k _ he

/-- The first place where it is so. -/
def firstB (t : Bool) : List Bool → Option Nat
  | [] => none
  | x :: l => if x = t then some 0 else (firstB t l).map (· + 1)
theorem firstB_some {t : Bool} : ∀ {l : List Bool} {i : Nat}, firstB t l = some i → ∃ hi : i < l.length, l[i] = t ∧ ∀ j (hj : j < i), l[j] ≠ t
  | [], i, e => by simp [firstB] at e
  | x :: l, i, e => by
    simp only [firstB] at e
    split at e
    · next hx => simp at e; subst e; exact ⟨by simp, by simpa using hx, fun j hj => by omega⟩
    · next hx =>
      cases hq : firstB t l with
      | none => simp [hq] at e
      | some k =>
        simp [hq] at e; subst e
        obtain ⟨hi, h1, h2⟩ := firstB_some hq
        refine ⟨by simp; omega, by simpa using h1, fun j hj => ?_⟩
        cases j with
        | zero => simpa using hx
        | succ j => simpa using h2 j (by omega)
theorem firstB_none {t : Bool} : ∀ {l : List Bool}, firstB t l = none → ∀ j (hj : j < l.length), l[j] ≠ t
  | [], _, j, hj => by simp at hj
  | x :: l, e, j, hj => by
    simp only [firstB] at e
    split at e
    · simp at e
    · next hx =>
      have e : firstB t l = none := by simpa using e
      cases j with
      | zero => simpa using hx
      | succ j => simpa using firstB_none e j (by simpa using hj)

theorem firstB_of {t : Bool} : ∀ {l : List Bool} {i : Nat} (hi : i < l.length), l[i] = t → (∀ j (hj : j < i), l[j] ≠ t) → firstB t l = some i
  | [], i, hi, _, _ => by simp at hi
  | x :: l, 0, _, e, _ => by simp only [firstB]; rw [if_pos (by simpa using e)]
  | x :: l, i + 1, hi, e, a => by
    simp only [firstB]
    rw [if_neg (by simpa using a 0 (by omega)), firstB_of (i := i) (by simpa using hi) (by simpa using e) (fun j hj => by simpa using a (j + 1) (by omega))]
    rfl
theorem firstB_no {t : Bool} : ∀ {l : List Bool}, (∀ j (hj : j < l.length), l[j] ≠ t) → firstB t l = none
  | [], _ => rfl
  | x :: l, a => by
    simp only [firstB]
    have e1 : ¬ x = t := fun e => a 0 (Nat.succ_pos _) e
    have e2 : firstB t l = none := firstB_no fun j hj e => a (j + 1) (Nat.succ_lt_succ hj) e
    rw [if_neg e1, e2]; rfl

/-- Where 'from + i * size' lies: within the numbers. -/
def InRange (f s : Int) (n : Nat) : Prop := 0 ≤ f ∧ f ≤ 8192 ∧ 1 ≤ s ∧ s ≤ 8192 ∧ n ≤ 8192
theorem InRange.mul {f s : Int} {n : Nat} (r : InRange f s n) {i : Nat} (hi : i ≤ n) : 0 ≤ (i : Int) * s ∧ (i : Int) * s ≤ 67108864 := by
  obtain ⟨_, _, h1, h2, h3⟩ := r
  have h4 : (i : Int) * s ≤ 8192 * 8192 := Int.mul_le_mul (by omega) h2 (by omega) (by omega)
  exact ⟨Int.mul_nonneg (by omega) (by omega), by omega⟩

theorem take1_cal {p b c1 c2 c3 i : Nat} {f s : Int} {l : List Bool} {x y : CVal} {h : Heap} {Q : CVal → Heap → Prop} (hs : IsSegs h p b f s l) (r : InRange f s l.length) (hi : i < l.length)
    (g1 : h.get c1 = some (.cells [.ptr p 0] true none)) (g2 : h.get c2 = some (.cells [x] true none)) (g3 : h.get c3 = some (.cells [y] true none))
    (d : c1 ≠ c2 ∧ c1 ≠ c3 ∧ c2 ≠ c3 ∧ c2 ≠ b ∧ c3 ≠ b ∧ c2 ≠ p ∧ c3 ≠ p)
    (k : Q (.bool false) (((h.set c2 (.cells [.int .i64 (f + i * s)] true none)).set c3 (.cells [.bool true] true none)).set b (.cells ((l.set i true).map .bool) true none))) :
    Cal tt 25 [.int .i64 i, .ptr c1 0, .ptr c2 0, .ptr c3 0] h Q := by
  have hs0 := hs
  obtain ⟨hp, hb, ne, lp, lb⟩ := hs
  have m := r.mul (Nat.le_of_lt hi)
  have r0 := r
  obtain ⟨_, _, _, _, _⟩ := r0
  refine Cal.run rfl rfl rfl rfl ?_
  rw [← put_map] at k
  (repeat' ((conv => whnf); (first
      | refine CALLN.of (at_cal hs0 (by omega) (by omega) ?_)
      | refine LTN.yes (by omega) ?_
      | refine LTN.no (by omega) ?_
      | refine LTN.mk (fun _ => ?_) (fun _ => ?_)
      | refine EQN.yes (by omega) ?_
      | refine EQN.no (by omega) ?_
      | refine EQN.mk (fun _ => ?_) (fun _ => ?_)
      | refine EQSN.yes (by first | rfl | assumption) ?_
      | refine EQSN.no (by first | decide | assumption) ?_
      | refine EQSN.mk (fun _ => ?_) (fun _ => ?_)
      | refine ARN.in (by omega) ?_
      | refine ARN.fits (by first | (apply u8_in; omega) | (apply i32_in; omega) | (apply u32_in; omega)) ?_
      | refine QUON.pos (by omega) ?_
      | refine REMN.pos (by omega) ?_
      | refine REMN.mk (by omega) ?_
      | refine GETN.mk (by ((repeat first | refine Heap.room_get ?_ | refine Heap.set_skip (by omega) ?_ | refine Heap.new_skip (by ((repeat first | apply Heap.nx_set | apply Heap.nx_new | apply Heap.nx_kill | apply Heap.nx_room); first | assumption | rfl)) (by omega) ?_ | refine Exd.skip (by assumption) (by omega) ?_); first | assumption | exact Heap.set_at (by omega) | exact Heap.new_at (by ((repeat first | apply Heap.nx_set | apply Heap.nx_new | apply Heap.nx_kill | apply Heap.nx_room); first | assumption | rfl)) (by omega))) ?_
      | refine GETM.mk (by ((repeat first | refine Heap.room_get ?_ | refine Heap.set_skip (by omega) ?_ | refine Heap.new_skip (by ((repeat first | apply Heap.nx_set | apply Heap.nx_new | apply Heap.nx_kill | apply Heap.nx_room); first | assumption | rfl)) (by omega) ?_ | refine Exd.skip (by assumption) (by omega) ?_); first | assumption | exact Heap.set_at (by omega) | exact Heap.new_at (by ((repeat first | apply Heap.nx_set | apply Heap.nx_new | apply Heap.nx_kill | apply Heap.nx_room); first | assumption | rfl)) (by omega))) ?_
      | refine NEWN.mk (by ((repeat first | apply Heap.nx_set | apply Heap.nx_new | apply Heap.nx_kill | apply Heap.nx_room); first | assumption | rfl)) ?_
      | refine SETN.mk (by ((repeat first | refine Heap.room_get ?_ | refine Heap.set_skip (by omega) ?_ | refine Heap.new_skip (by ((repeat first | apply Heap.nx_set | apply Heap.nx_new | apply Heap.nx_kill | apply Heap.nx_room); first | assumption | rfl)) (by omega) ?_ | refine Exd.skip (by assumption) (by omega) ?_); first | assumption | exact Heap.set_at (by omega) | exact Heap.new_at (by ((repeat first | apply Heap.nx_set | apply Heap.nx_new | apply Heap.nx_kill | apply Heap.nx_room); first | assumption | rfl)) (by omega))) (by rfl) (by (first | decide | (simp; done) | (simp; omega))) ?_
      | refine DOESN.mk (by first | rfl | omega | (simp; done) | (simp; omega)) ?_
      | refine BC.yes (by assumption) ?_
      | refine BC.no (by assumption) ?_
      | refine BC.split (fun _ => ?_) (fun _ => ?_)
      | refine SOMEN.mk (by rfl) ?_
      | refine scopeC ?_
      | refine drawC0 (hist := fun _ => Heap.empty 0) rfl ?_
      | refine drawC (hist := fun _ => Heap.empty 0) rfl ?_
      | refine NUMN.mk (by ((repeat first | apply Heap.nx_set | apply Heap.nx_new | apply Heap.nx_kill | apply Heap.nx_room); first | assumption | rfl)) ?_
      | refine LOOKN.mk (by first | exact QV.load rfl (by ((repeat first | refine Heap.room_get ?_ | refine Heap.set_skip (by omega) ?_ | refine Heap.new_skip (by ((repeat first | apply Heap.nx_set | apply Heap.nx_new | apply Heap.nx_kill | apply Heap.nx_room); first | assumption | rfl)) (by omega) ?_ | refine Exd.skip (by assumption) (by omega) ?_); first | assumption | exact Heap.set_at (by omega) | exact Heap.new_at (by ((repeat first | apply Heap.nx_set | apply Heap.nx_new | apply Heap.nx_kill | apply Heap.nx_room); first | assumption | rfl)) (by omega))) (by rfl) | exact QV.loadA rfl (by ((repeat first | refine Heap.room_get ?_ | refine Heap.set_skip (by omega) ?_ | refine Heap.new_skip (by ((repeat first | apply Heap.nx_set | apply Heap.nx_new | apply Heap.nx_kill | apply Heap.nx_room); first | assumption | rfl)) (by omega) ?_ | refine Exd.skip (by assumption) (by omega) ?_); first | assumption | exact Heap.set_at (by omega) | exact Heap.new_at (by ((repeat first | apply Heap.nx_set | apply Heap.nx_new | apply Heap.nx_kill | apply Heap.nx_room); first | assumption | rfl)) (by omega))) (by rfl) (by rfl)) ?_)))
  exact k

theorem take_cal {p b : Nat} {f s : Int} {l : List Bool} {h : Heap} {Q : CVal → Heap → Prop} (hs : IsSegs h p b f s l) (r : InRange f s l.length)
    (yes : ∀ i h', firstB false l = some i → IsSegs h' p b f s (l.set i true) → Upd (fun j => j = b) h h' → Q (.tuple [.int .i64 (f + i * s), .bool true]) h')
    (no : ∀ h', firstB false l = none → IsSegs h' p b f s l → Exd h h' → Q (.tuple [.int .i64 0, .bool false]) h') : Cal tt 10 [.ptr p 0] h Q := by
  have hs0 := hs
  obtain ⟨hp, hb, ne, lp, lb⟩ := hs
  refine Cal.run rfl rfl rfl rfl ?_
  (repeat' ((conv => whnf); (first
      | refine LTN.yes (by omega) ?_
      | refine LTN.no (by omega) ?_
      | refine LTN.mk (fun _ => ?_) (fun _ => ?_)
      | refine EQN.yes (by omega) ?_
      | refine EQN.no (by omega) ?_
      | refine EQN.mk (fun _ => ?_) (fun _ => ?_)
      | refine EQSN.yes (by first | rfl | assumption) ?_
      | refine EQSN.no (by first | decide | assumption) ?_
      | refine EQSN.mk (fun _ => ?_) (fun _ => ?_)
      | refine ARN.in (by omega) ?_
      | refine ARN.fits (by first | (apply u8_in; omega) | (apply i32_in; omega) | (apply u32_in; omega)) ?_
      | refine QUON.pos (by omega) ?_
      | refine REMN.pos (by omega) ?_
      | refine REMN.mk (by omega) ?_
      | refine GETN.mk (by ((repeat first | refine Heap.room_get ?_ | refine Heap.set_skip (by omega) ?_ | refine Heap.new_skip (by ((repeat first | apply Heap.nx_set | apply Heap.nx_new | apply Heap.nx_kill | apply Heap.nx_room); first | assumption | rfl)) (by omega) ?_ | refine Exd.skip (by assumption) (by omega) ?_); first | assumption | exact Heap.set_at (by omega) | exact Heap.new_at (by ((repeat first | apply Heap.nx_set | apply Heap.nx_new | apply Heap.nx_kill | apply Heap.nx_room); first | assumption | rfl)) (by omega))) ?_
      | refine GETM.mk (by ((repeat first | refine Heap.room_get ?_ | refine Heap.set_skip (by omega) ?_ | refine Heap.new_skip (by ((repeat first | apply Heap.nx_set | apply Heap.nx_new | apply Heap.nx_kill | apply Heap.nx_room); first | assumption | rfl)) (by omega) ?_ | refine Exd.skip (by assumption) (by omega) ?_); first | assumption | exact Heap.set_at (by omega) | exact Heap.new_at (by ((repeat first | apply Heap.nx_set | apply Heap.nx_new | apply Heap.nx_kill | apply Heap.nx_room); first | assumption | rfl)) (by omega))) ?_
      | refine NEWN.mk (by ((repeat first | apply Heap.nx_set | apply Heap.nx_new | apply Heap.nx_kill | apply Heap.nx_room); first | assumption | rfl)) ?_
      | refine SETN.mk (by ((repeat first | refine Heap.room_get ?_ | refine Heap.set_skip (by omega) ?_ | refine Heap.new_skip (by ((repeat first | apply Heap.nx_set | apply Heap.nx_new | apply Heap.nx_kill | apply Heap.nx_room); first | assumption | rfl)) (by omega) ?_ | refine Exd.skip (by assumption) (by omega) ?_); first | assumption | exact Heap.set_at (by omega) | exact Heap.new_at (by ((repeat first | apply Heap.nx_set | apply Heap.nx_new | apply Heap.nx_kill | apply Heap.nx_room); first | assumption | rfl)) (by omega))) (by rfl) (by (first | decide | (simp; done) | (simp; omega))) ?_
      | refine DOESN.mk (by first | rfl | omega | (simp; done) | (simp; omega)) ?_
      | refine BC.yes (by assumption) ?_
      | refine BC.no (by assumption) ?_
      | refine BC.split (fun _ => ?_) (fun _ => ?_)
      | refine SOMEN.mk (by rfl) ?_
      | refine scopeC ?_
      | refine drawC0 (hist := fun _ => Heap.empty 0) rfl ?_
      | refine drawC (hist := fun _ => Heap.empty 0) rfl ?_
      | refine NUMN.mk (by ((repeat first | apply Heap.nx_set | apply Heap.nx_new | apply Heap.nx_kill | apply Heap.nx_room); first | assumption | rfl)) ?_
      | refine LOOKN.mk (by first | exact QV.load rfl (by ((repeat first | refine Heap.room_get ?_ | refine Heap.set_skip (by omega) ?_ | refine Heap.new_skip (by ((repeat first | apply Heap.nx_set | apply Heap.nx_new | apply Heap.nx_kill | apply Heap.nx_room); first | assumption | rfl)) (by omega) ?_ | refine Exd.skip (by assumption) (by omega) ?_); first | assumption | exact Heap.set_at (by omega) | exact Heap.new_at (by ((repeat first | apply Heap.nx_set | apply Heap.nx_new | apply Heap.nx_kill | apply Heap.nx_room); first | assumption | rfl)) (by omega))) (by rfl) | exact QV.loadA rfl (by ((repeat first | refine Heap.room_get ?_ | refine Heap.set_skip (by omega) ?_ | refine Heap.new_skip (by ((repeat first | apply Heap.nx_set | apply Heap.nx_new | apply Heap.nx_kill | apply Heap.nx_room); first | assumption | rfl)) (by omega) ?_ | refine Exd.skip (by assumption) (by omega) ?_); first | assumption | exact Heap.set_at (by omega) | exact Heap.new_at (by ((repeat first | apply Heap.nx_set | apply Heap.nx_new | apply Heap.nx_kill | apply Heap.nx_room); first | assumption | rfl)) (by omega))) (by rfl) (by rfl)) ?_)))
  refine CALLN.of (those_cal (b := b) (f := f) (s := s) (l := l)
    (fun i h' => h' = ((h.new (.cells [.ptr p 0] true none)).new (.cells [.int .i64 0] true none)).new (.cells [.bool false] true none) ∧ ∀ j (hj : j < i) (hl : j < l.length), l[j] ≠ false)
    (fun h' => (∃ i, ∃ hi : i < l.length, (l[i] = false ∧ ∀ j (hj : j < i), l[j] ≠ false) ∧ h' = (((((h.new (.cells [.ptr p 0] true none)).new (.cells [.int .i64 0] true none)).new (.cells [.bool false] true none)).set (h.next + 1) (.cells [.int .i64 (f + i * s)] true none)).set (h.next + 1 + 1) (.cells [.bool true] true none)).set b (.cells ((l.set i true).map .bool) true none)) ∨
      ((∀ j (hl : j < l.length), l[j] ≠ false) ∧ h' = ((h.new (.cells [.ptr p 0] true none)).new (.cells [.int .i64 0] true none)).new (.cells [.bool false] true none)))
    (by have := r.2.2.2.2; omega) ?_ ⟨rfl, fun j hj => by omega⟩ ⟨by ((repeat first | refine Heap.room_get ?_ | refine Heap.set_skip (by omega) ?_ | refine Heap.new_skip (by ((repeat first | apply Heap.nx_set | apply Heap.nx_new | apply Heap.nx_kill | apply Heap.nx_room); first | assumption | rfl)) (by omega) ?_ | refine Exd.skip (by assumption) (by omega) ?_); first | assumption | exact Heap.set_at (by omega) | exact Heap.new_at (by ((repeat first | apply Heap.nx_set | apply Heap.nx_new | apply Heap.nx_kill | apply Heap.nx_room); first | assumption | rfl)) (by omega)), by ((repeat first | refine Heap.room_get ?_ | refine Heap.set_skip (by omega) ?_ | refine Heap.new_skip (by ((repeat first | apply Heap.nx_set | apply Heap.nx_new | apply Heap.nx_kill | apply Heap.nx_room); first | assumption | rfl)) (by omega) ?_ | refine Exd.skip (by assumption) (by omega) ?_); first | assumption | exact Heap.set_at (by omega) | exact Heap.new_at (by ((repeat first | apply Heap.nx_set | apply Heap.nx_new | apply Heap.nx_kill | apply Heap.nx_room); first | assumption | rfl)) (by omega)), ne, by simp only [Heap.next_new]; omega, by simp only [Heap.next_new]; omega⟩ ?_ ?_ ?_ ?_)
  · rintro i h' ⟨rfl, _⟩; ((repeat first | refine Heap.room_get ?_ | refine Heap.set_skip (by omega) ?_ | refine Heap.new_skip (by ((repeat first | apply Heap.nx_set | apply Heap.nx_new | apply Heap.nx_kill | apply Heap.nx_room); first | assumption | rfl)) (by omega) ?_ | refine Exd.skip (by assumption) (by omega) ?_); first | assumption | exact Heap.set_at (by omega) | exact Heap.new_at (by ((repeat first | apply Heap.nx_set | apply Heap.nx_new | apply Heap.nx_kill | apply Heap.nx_room); first | assumption | rfl)) (by omega))
  · rintro i h' hi hne ⟨rfl, ha⟩
    exact ⟨rfl, fun j hj hl => by
      rcases Nat.lt_or_ge j i with h1 | h1
      · exact ha j h1 hl
      · have : j = i := by omega
        subst this; exact hne⟩
  · rintro i h' hi he ⟨rfl, ha⟩
    refine take1_cal (b := b) ⟨by ((repeat first | refine Heap.room_get ?_ | refine Heap.set_skip (by omega) ?_ | refine Heap.new_skip (by ((repeat first | apply Heap.nx_set | apply Heap.nx_new | apply Heap.nx_kill | apply Heap.nx_room); first | assumption | rfl)) (by omega) ?_ | refine Exd.skip (by assumption) (by omega) ?_); first | assumption | exact Heap.set_at (by omega) | exact Heap.new_at (by ((repeat first | apply Heap.nx_set | apply Heap.nx_new | apply Heap.nx_kill | apply Heap.nx_room); first | assumption | rfl)) (by omega)), by ((repeat first | refine Heap.room_get ?_ | refine Heap.set_skip (by omega) ?_ | refine Heap.new_skip (by ((repeat first | apply Heap.nx_set | apply Heap.nx_new | apply Heap.nx_kill | apply Heap.nx_room); first | assumption | rfl)) (by omega) ?_ | refine Exd.skip (by assumption) (by omega) ?_); first | assumption | exact Heap.set_at (by omega) | exact Heap.new_at (by ((repeat first | apply Heap.nx_set | apply Heap.nx_new | apply Heap.nx_kill | apply Heap.nx_room); first | assumption | rfl)) (by omega)), ne, by simp only [Heap.next_new]; omega, by simp only [Heap.next_new]; omega⟩ r hi (by ((repeat first | refine Heap.room_get ?_ | refine Heap.set_skip (by omega) ?_ | refine Heap.new_skip (by ((repeat first | apply Heap.nx_set | apply Heap.nx_new | apply Heap.nx_kill | apply Heap.nx_room); first | assumption | rfl)) (by omega) ?_ | refine Exd.skip (by assumption) (by omega) ?_); first | assumption | exact Heap.set_at (by omega) | exact Heap.new_at (by ((repeat first | apply Heap.nx_set | apply Heap.nx_new | apply Heap.nx_kill | apply Heap.nx_room); first | assumption | rfl)) (by omega))) (by ((repeat first | refine Heap.room_get ?_ | refine Heap.set_skip (by omega) ?_ | refine Heap.new_skip (by ((repeat first | apply Heap.nx_set | apply Heap.nx_new | apply Heap.nx_kill | apply Heap.nx_room); first | assumption | rfl)) (by omega) ?_ | refine Exd.skip (by assumption) (by omega) ?_); first | assumption | exact Heap.set_at (by omega) | exact Heap.new_at (by ((repeat first | apply Heap.nx_set | apply Heap.nx_new | apply Heap.nx_kill | apply Heap.nx_room); first | assumption | rfl)) (by omega))) (by ((repeat first | refine Heap.room_get ?_ | refine Heap.set_skip (by omega) ?_ | refine Heap.new_skip (by ((repeat first | apply Heap.nx_set | apply Heap.nx_new | apply Heap.nx_kill | apply Heap.nx_room); first | assumption | rfl)) (by omega) ?_ | refine Exd.skip (by assumption) (by omega) ?_); first | assumption | exact Heap.set_at (by omega) | exact Heap.new_at (by ((repeat first | apply Heap.nx_set | apply Heap.nx_new | apply Heap.nx_kill | apply Heap.nx_room); first | assumption | rfl)) (by omega))) (by omega) ?_
    exact .inr ⟨rfl, .inl ⟨i, hi, ⟨he, fun j hj => ha j hj _⟩, rfl⟩⟩
  · rintro h' ⟨rfl, ha⟩
    exact .inr ⟨fun j hl => ha j hl hl, rfl⟩
  · rintro h' (⟨i, hi, ⟨h1, h2⟩, rfl⟩ | ⟨h1, rfl⟩)
    · (repeat' ((conv => whnf); (first
      | refine LTN.yes (by omega) ?_
      | refine LTN.no (by omega) ?_
      | refine LTN.mk (fun _ => ?_) (fun _ => ?_)
      | refine EQN.yes (by omega) ?_
      | refine EQN.no (by omega) ?_
      | refine EQN.mk (fun _ => ?_) (fun _ => ?_)
      | refine EQSN.yes (by first | rfl | assumption) ?_
      | refine EQSN.no (by first | decide | assumption) ?_
      | refine EQSN.mk (fun _ => ?_) (fun _ => ?_)
      | refine ARN.in (by omega) ?_
      | refine ARN.fits (by first | (apply u8_in; omega) | (apply i32_in; omega) | (apply u32_in; omega)) ?_
      | refine QUON.pos (by omega) ?_
      | refine REMN.pos (by omega) ?_
      | refine REMN.mk (by omega) ?_
      | refine GETN.mk (by ((repeat first | refine Heap.room_get ?_ | refine Heap.set_skip (by omega) ?_ | refine Heap.new_skip (by ((repeat first | apply Heap.nx_set | apply Heap.nx_new | apply Heap.nx_kill | apply Heap.nx_room); first | assumption | rfl)) (by omega) ?_ | refine Exd.skip (by assumption) (by omega) ?_); first | assumption | exact Heap.set_at (by omega) | exact Heap.new_at (by ((repeat first | apply Heap.nx_set | apply Heap.nx_new | apply Heap.nx_kill | apply Heap.nx_room); first | assumption | rfl)) (by omega))) ?_
      | refine GETM.mk (by ((repeat first | refine Heap.room_get ?_ | refine Heap.set_skip (by omega) ?_ | refine Heap.new_skip (by ((repeat first | apply Heap.nx_set | apply Heap.nx_new | apply Heap.nx_kill | apply Heap.nx_room); first | assumption | rfl)) (by omega) ?_ | refine Exd.skip (by assumption) (by omega) ?_); first | assumption | exact Heap.set_at (by omega) | exact Heap.new_at (by ((repeat first | apply Heap.nx_set | apply Heap.nx_new | apply Heap.nx_kill | apply Heap.nx_room); first | assumption | rfl)) (by omega))) ?_
      | refine NEWN.mk (by ((repeat first | apply Heap.nx_set | apply Heap.nx_new | apply Heap.nx_kill | apply Heap.nx_room); first | assumption | rfl)) ?_
      | refine SETN.mk (by ((repeat first | refine Heap.room_get ?_ | refine Heap.set_skip (by omega) ?_ | refine Heap.new_skip (by ((repeat first | apply Heap.nx_set | apply Heap.nx_new | apply Heap.nx_kill | apply Heap.nx_room); first | assumption | rfl)) (by omega) ?_ | refine Exd.skip (by assumption) (by omega) ?_); first | assumption | exact Heap.set_at (by omega) | exact Heap.new_at (by ((repeat first | apply Heap.nx_set | apply Heap.nx_new | apply Heap.nx_kill | apply Heap.nx_room); first | assumption | rfl)) (by omega))) (by rfl) (by (first | decide | (simp; done) | (simp; omega))) ?_
      | refine DOESN.mk (by first | rfl | omega | (simp; done) | (simp; omega)) ?_
      | refine BC.yes (by assumption) ?_
      | refine BC.no (by assumption) ?_
      | refine BC.split (fun _ => ?_) (fun _ => ?_)
      | refine SOMEN.mk (by rfl) ?_
      | refine scopeC ?_
      | refine drawC0 (hist := fun _ => Heap.empty 0) rfl ?_
      | refine drawC (hist := fun _ => Heap.empty 0) rfl ?_
      | refine NUMN.mk (by ((repeat first | apply Heap.nx_set | apply Heap.nx_new | apply Heap.nx_kill | apply Heap.nx_room); first | assumption | rfl)) ?_
      | refine LOOKN.mk (by first | exact QV.load rfl (by ((repeat first | refine Heap.room_get ?_ | refine Heap.set_skip (by omega) ?_ | refine Heap.new_skip (by ((repeat first | apply Heap.nx_set | apply Heap.nx_new | apply Heap.nx_kill | apply Heap.nx_room); first | assumption | rfl)) (by omega) ?_ | refine Exd.skip (by assumption) (by omega) ?_); first | assumption | exact Heap.set_at (by omega) | exact Heap.new_at (by ((repeat first | apply Heap.nx_set | apply Heap.nx_new | apply Heap.nx_kill | apply Heap.nx_room); first | assumption | rfl)) (by omega))) (by rfl) | exact QV.loadA rfl (by ((repeat first | refine Heap.room_get ?_ | refine Heap.set_skip (by omega) ?_ | refine Heap.new_skip (by ((repeat first | apply Heap.nx_set | apply Heap.nx_new | apply Heap.nx_kill | apply Heap.nx_room); first | assumption | rfl)) (by omega) ?_ | refine Exd.skip (by assumption) (by omega) ?_); first | assumption | exact Heap.set_at (by omega) | exact Heap.new_at (by ((repeat first | apply Heap.nx_set | apply Heap.nx_new | apply Heap.nx_kill | apply Heap.nx_room); first | assumption | rfl)) (by omega))) (by rfl) (by rfl)) ?_)))
      exact yes i _ (firstB_of hi h1 h2) ⟨by rw [List.length_set]; ((repeat first | refine Heap.room_get ?_ | refine Heap.set_skip (by omega) ?_ | refine Heap.new_skip (by ((repeat first | apply Heap.nx_set | apply Heap.nx_new | apply Heap.nx_kill | apply Heap.nx_room); first | assumption | rfl)) (by omega) ?_ | refine Exd.skip (by assumption) (by omega) ?_); first | assumption | exact Heap.set_at (by omega) | exact Heap.new_at (by ((repeat first | apply Heap.nx_set | apply Heap.nx_new | apply Heap.nx_kill | apply Heap.nx_room); first | assumption | rfl)) (by omega)), by ((repeat first | refine Heap.room_get ?_ | refine Heap.set_skip (by omega) ?_ | refine Heap.new_skip (by ((repeat first | apply Heap.nx_set | apply Heap.nx_new | apply Heap.nx_kill | apply Heap.nx_room); first | assumption | rfl)) (by omega) ?_ | refine Exd.skip (by assumption) (by omega) ?_); first | assumption | exact Heap.set_at (by omega) | exact Heap.new_at (by ((repeat first | apply Heap.nx_set | apply Heap.nx_new | apply Heap.nx_kill | apply Heap.nx_room); first | assumption | rfl)) (by omega)), ne, (by (first | omega | (simp only [Heap.next_new]; omega) | (simp only [Heap.next_set]; omega) | (simp only [Heap.next_set, Heap.next_new]; omega) | (simp only [Heap.next_set, Heap.next_new, Heap.next_kill]; omega))), (by (first | omega | (simp only [Heap.next_new]; omega) | (simp only [Heap.next_set]; omega) | (simp only [Heap.next_set, Heap.next_new]; omega) | (simp only [Heap.next_set, Heap.next_new, Heap.next_kill]; omega)))⟩ (by (repeat' first | exact Upd.refl _ _ | refine Upd.new ?_ | refine Upd.set ?_ (by first | (left; rfl) | (right; omega)) | refine Upd.trans (by assumption) ?_))
    · (repeat' ((conv => whnf); (first
      | refine LTN.yes (by omega) ?_
      | refine LTN.no (by omega) ?_
      | refine LTN.mk (fun _ => ?_) (fun _ => ?_)
      | refine EQN.yes (by omega) ?_
      | refine EQN.no (by omega) ?_
      | refine EQN.mk (fun _ => ?_) (fun _ => ?_)
      | refine EQSN.yes (by first | rfl | assumption) ?_
      | refine EQSN.no (by first | decide | assumption) ?_
      | refine EQSN.mk (fun _ => ?_) (fun _ => ?_)
      | refine ARN.in (by omega) ?_
      | refine ARN.fits (by first | (apply u8_in; omega) | (apply i32_in; omega) | (apply u32_in; omega)) ?_
      | refine QUON.pos (by omega) ?_
      | refine REMN.pos (by omega) ?_
      | refine REMN.mk (by omega) ?_
      | refine GETN.mk (by ((repeat first | refine Heap.room_get ?_ | refine Heap.set_skip (by omega) ?_ | refine Heap.new_skip (by ((repeat first | apply Heap.nx_set | apply Heap.nx_new | apply Heap.nx_kill | apply Heap.nx_room); first | assumption | rfl)) (by omega) ?_ | refine Exd.skip (by assumption) (by omega) ?_); first | assumption | exact Heap.set_at (by omega) | exact Heap.new_at (by ((repeat first | apply Heap.nx_set | apply Heap.nx_new | apply Heap.nx_kill | apply Heap.nx_room); first | assumption | rfl)) (by omega))) ?_
      | refine GETM.mk (by ((repeat first | refine Heap.room_get ?_ | refine Heap.set_skip (by omega) ?_ | refine Heap.new_skip (by ((repeat first | apply Heap.nx_set | apply Heap.nx_new | apply Heap.nx_kill | apply Heap.nx_room); first | assumption | rfl)) (by omega) ?_ | refine Exd.skip (by assumption) (by omega) ?_); first | assumption | exact Heap.set_at (by omega) | exact Heap.new_at (by ((repeat first | apply Heap.nx_set | apply Heap.nx_new | apply Heap.nx_kill | apply Heap.nx_room); first | assumption | rfl)) (by omega))) ?_
      | refine NEWN.mk (by ((repeat first | apply Heap.nx_set | apply Heap.nx_new | apply Heap.nx_kill | apply Heap.nx_room); first | assumption | rfl)) ?_
      | refine SETN.mk (by ((repeat first | refine Heap.room_get ?_ | refine Heap.set_skip (by omega) ?_ | refine Heap.new_skip (by ((repeat first | apply Heap.nx_set | apply Heap.nx_new | apply Heap.nx_kill | apply Heap.nx_room); first | assumption | rfl)) (by omega) ?_ | refine Exd.skip (by assumption) (by omega) ?_); first | assumption | exact Heap.set_at (by omega) | exact Heap.new_at (by ((repeat first | apply Heap.nx_set | apply Heap.nx_new | apply Heap.nx_kill | apply Heap.nx_room); first | assumption | rfl)) (by omega))) (by rfl) (by (first | decide | (simp; done) | (simp; omega))) ?_
      | refine DOESN.mk (by first | rfl | omega | (simp; done) | (simp; omega)) ?_
      | refine BC.yes (by assumption) ?_
      | refine BC.no (by assumption) ?_
      | refine BC.split (fun _ => ?_) (fun _ => ?_)
      | refine SOMEN.mk (by rfl) ?_
      | refine scopeC ?_
      | refine drawC0 (hist := fun _ => Heap.empty 0) rfl ?_
      | refine drawC (hist := fun _ => Heap.empty 0) rfl ?_
      | refine NUMN.mk (by ((repeat first | apply Heap.nx_set | apply Heap.nx_new | apply Heap.nx_kill | apply Heap.nx_room); first | assumption | rfl)) ?_
      | refine LOOKN.mk (by first | exact QV.load rfl (by ((repeat first | refine Heap.room_get ?_ | refine Heap.set_skip (by omega) ?_ | refine Heap.new_skip (by ((repeat first | apply Heap.nx_set | apply Heap.nx_new | apply Heap.nx_kill | apply Heap.nx_room); first | assumption | rfl)) (by omega) ?_ | refine Exd.skip (by assumption) (by omega) ?_); first | assumption | exact Heap.set_at (by omega) | exact Heap.new_at (by ((repeat first | apply Heap.nx_set | apply Heap.nx_new | apply Heap.nx_kill | apply Heap.nx_room); first | assumption | rfl)) (by omega))) (by rfl) | exact QV.loadA rfl (by ((repeat first | refine Heap.room_get ?_ | refine Heap.set_skip (by omega) ?_ | refine Heap.new_skip (by ((repeat first | apply Heap.nx_set | apply Heap.nx_new | apply Heap.nx_kill | apply Heap.nx_room); first | assumption | rfl)) (by omega) ?_ | refine Exd.skip (by assumption) (by omega) ?_); first | assumption | exact Heap.set_at (by omega) | exact Heap.new_at (by ((repeat first | apply Heap.nx_set | apply Heap.nx_new | apply Heap.nx_kill | apply Heap.nx_room); first | assumption | rfl)) (by omega))) (by rfl) (by rfl)) ?_)))
      exact no _ (firstB_no h1) ⟨by ((repeat first | refine Heap.room_get ?_ | refine Heap.set_skip (by omega) ?_ | refine Heap.new_skip (by ((repeat first | apply Heap.nx_set | apply Heap.nx_new | apply Heap.nx_kill | apply Heap.nx_room); first | assumption | rfl)) (by omega) ?_ | refine Exd.skip (by assumption) (by omega) ?_); first | assumption | exact Heap.set_at (by omega) | exact Heap.new_at (by ((repeat first | apply Heap.nx_set | apply Heap.nx_new | apply Heap.nx_kill | apply Heap.nx_room); first | assumption | rfl)) (by omega)), by ((repeat first | refine Heap.room_get ?_ | refine Heap.set_skip (by omega) ?_ | refine Heap.new_skip (by ((repeat first | apply Heap.nx_set | apply Heap.nx_new | apply Heap.nx_kill | apply Heap.nx_room); first | assumption | rfl)) (by omega) ?_ | refine Exd.skip (by assumption) (by omega) ?_); first | assumption | exact Heap.set_at (by omega) | exact Heap.new_at (by ((repeat first | apply Heap.nx_set | apply Heap.nx_new | apply Heap.nx_kill | apply Heap.nx_room); first | assumption | rfl)) (by omega)), ne, (by (first | omega | (simp only [Heap.next_new]; omega) | (simp only [Heap.next_set]; omega) | (simp only [Heap.next_set, Heap.next_new]; omega) | (simp only [Heap.next_set, Heap.next_new, Heap.next_kill]; omega))), (by (first | omega | (simp only [Heap.next_new]; omega) | (simp only [Heap.next_set]; omega) | (simp only [Heap.next_set, Heap.next_new]; omega) | (simp only [Heap.next_set, Heap.next_new, Heap.next_kill]; omega)))⟩ (by (repeat' first | exact Exd.refl _ | assumption | refine Exd.new ?_ | refine Exd.set ?_ (by omega) | refine Exd.kill ?_ (by omega)))

theorem takeN_cal {h : Heap} {Q : CVal → Heap → Prop} (k : ∀ h', Exd h h' → Q (.tuple [.int .i64 0, .bool false]) h') : Cal tt 10 [.nilPtr] h Q := by
  refine Cal.run rfl rfl rfl rfl ?_
  (repeat' ((conv => whnf); (first
      | refine CALLN.of (thoseN_cal ?_)
      | refine LTN.yes (by omega) ?_
      | refine LTN.no (by omega) ?_
      | refine LTN.mk (fun _ => ?_) (fun _ => ?_)
      | refine EQN.yes (by omega) ?_
      | refine EQN.no (by omega) ?_
      | refine EQN.mk (fun _ => ?_) (fun _ => ?_)
      | refine EQSN.yes (by first | rfl | assumption) ?_
      | refine EQSN.no (by first | decide | assumption) ?_
      | refine EQSN.mk (fun _ => ?_) (fun _ => ?_)
      | refine ARN.in (by omega) ?_
      | refine ARN.fits (by first | (apply u8_in; omega) | (apply i32_in; omega) | (apply u32_in; omega)) ?_
      | refine QUON.pos (by omega) ?_
      | refine REMN.pos (by omega) ?_
      | refine REMN.mk (by omega) ?_
      | refine GETN.mk (by ((repeat first | refine Heap.room_get ?_ | refine Heap.set_skip (by omega) ?_ | refine Heap.new_skip (by ((repeat first | apply Heap.nx_set | apply Heap.nx_new | apply Heap.nx_kill | apply Heap.nx_room); first | assumption | rfl)) (by omega) ?_ | refine Exd.skip (by assumption) (by omega) ?_); first | assumption | exact Heap.set_at (by omega) | exact Heap.new_at (by ((repeat first | apply Heap.nx_set | apply Heap.nx_new | apply Heap.nx_kill | apply Heap.nx_room); first | assumption | rfl)) (by omega))) ?_
      | refine GETM.mk (by ((repeat first | refine Heap.room_get ?_ | refine Heap.set_skip (by omega) ?_ | refine Heap.new_skip (by ((repeat first | apply Heap.nx_set | apply Heap.nx_new | apply Heap.nx_kill | apply Heap.nx_room); first | assumption | rfl)) (by omega) ?_ | refine Exd.skip (by assumption) (by omega) ?_); first | assumption | exact Heap.set_at (by omega) | exact Heap.new_at (by ((repeat first | apply Heap.nx_set | apply Heap.nx_new | apply Heap.nx_kill | apply Heap.nx_room); first | assumption | rfl)) (by omega))) ?_
      | refine NEWN.mk (by ((repeat first | apply Heap.nx_set | apply Heap.nx_new | apply Heap.nx_kill | apply Heap.nx_room); first | assumption | rfl)) ?_
      | refine SETN.mk (by ((repeat first | refine Heap.room_get ?_ | refine Heap.set_skip (by omega) ?_ | refine Heap.new_skip (by ((repeat first | apply Heap.nx_set | apply Heap.nx_new | apply Heap.nx_kill | apply Heap.nx_room); first | assumption | rfl)) (by omega) ?_ | refine Exd.skip (by assumption) (by omega) ?_); first | assumption | exact Heap.set_at (by omega) | exact Heap.new_at (by ((repeat first | apply Heap.nx_set | apply Heap.nx_new | apply Heap.nx_kill | apply Heap.nx_room); first | assumption | rfl)) (by omega))) (by rfl) (by (first | decide | (simp; done) | (simp; omega))) ?_
      | refine DOESN.mk (by first | rfl | omega | (simp; done) | (simp; omega)) ?_
      | refine BC.yes (by assumption) ?_
      | refine BC.no (by assumption) ?_
      | refine BC.split (fun _ => ?_) (fun _ => ?_)
      | refine SOMEN.mk (by rfl) ?_
      | refine scopeC ?_
      | refine drawC0 (hist := fun _ => Heap.empty 0) rfl ?_
      | refine drawC (hist := fun _ => Heap.empty 0) rfl ?_
      | refine NUMN.mk (by ((repeat first | apply Heap.nx_set | apply Heap.nx_new | apply Heap.nx_kill | apply Heap.nx_room); first | assumption | rfl)) ?_
      | refine LOOKN.mk (by first | exact QV.load rfl (by ((repeat first | refine Heap.room_get ?_ | refine Heap.set_skip (by omega) ?_ | refine Heap.new_skip (by ((repeat first | apply Heap.nx_set | apply Heap.nx_new | apply Heap.nx_kill | apply Heap.nx_room); first | assumption | rfl)) (by omega) ?_ | refine Exd.skip (by assumption) (by omega) ?_); first | assumption | exact Heap.set_at (by omega) | exact Heap.new_at (by ((repeat first | apply Heap.nx_set | apply Heap.nx_new | apply Heap.nx_kill | apply Heap.nx_room); first | assumption | rfl)) (by omega))) (by rfl) | exact QV.loadA rfl (by ((repeat first | refine Heap.room_get ?_ | refine Heap.set_skip (by omega) ?_ | refine Heap.new_skip (by ((repeat first | apply Heap.nx_set | apply Heap.nx_new | apply Heap.nx_kill | apply Heap.nx_room); first | assumption | rfl)) (by omega) ?_ | refine Exd.skip (by assumption) (by omega) ?_); first | assumption | exact Heap.set_at (by omega) | exact Heap.new_at (by ((repeat first | apply Heap.nx_set | apply Heap.nx_new | apply Heap.nx_kill | apply Heap.nx_room); first | assumption | rfl)) (by omega))) (by rfl) (by rfl)) ?_)))
  exact k _ (by (repeat' first | exact Exd.refl _ | assumption | refine Exd.new ?_ | refine Exd.set ?_ (by omega) | refine Exd.kill ?_ (by omega)))

theorem give1_cal {p b c1 c2 c3 i : Nat} {f s at_ : Int} {l : List Bool} {y : CVal} {h : Heap} {Q : CVal → Heap → Prop} (hs : IsSegs h p b f s l) (r : InRange f s l.length) (hi : i < l.length)
    (g1 : h.get c1 = some (.cells [.ptr p 0] true none)) (g2 : h.get c2 = some (.cells [.int .i64 at_] true none)) (g3 : h.get c3 = some (.cells [y] true none))
    (d : c1 ≠ c2 ∧ c1 ≠ c3 ∧ c2 ≠ c3 ∧ c3 ≠ b ∧ c3 ≠ p)
    (yes : f + i * s = at_ → Q (.bool false) ((h.set c3 (.cells [.bool true] true none)).set b (.cells ((l.set i false).map .bool) true none)))
    (no : f + i * s ≠ at_ → Q (.bool true) (h.set c3 (.cells [.bool false] true none))) :
    Cal tt 29 [.int .i64 i, .ptr c1 0, .ptr c2 0, .ptr c3 0] h Q := by
  have hs0 := hs
  obtain ⟨hp, hb, ne, lp, lb⟩ := hs
  have m := r.mul (Nat.le_of_lt hi)
  have r0 := r
  obtain ⟨_, _, _, _, _⟩ := r0
  refine Cal.run rfl rfl rfl rfl ?_
  rw [← put_map] at yes
  (repeat' ((conv => whnf); (first
      | refine CALLN.of (at_cal hs0 (by omega) (by omega) ?_)
      | refine LTN.yes (by omega) ?_
      | refine LTN.no (by omega) ?_
      | refine LTN.mk (fun _ => ?_) (fun _ => ?_)
      | refine EQN.yes (by omega) ?_
      | refine EQN.no (by omega) ?_
      | refine EQN.mk (fun _ => ?_) (fun _ => ?_)
      | refine EQSN.yes (by first | rfl | assumption) ?_
      | refine EQSN.no (by first | decide | assumption) ?_
      | refine EQSN.mk (fun _ => ?_) (fun _ => ?_)
      | refine ARN.in (by omega) ?_
      | refine ARN.fits (by first | (apply u8_in; omega) | (apply i32_in; omega) | (apply u32_in; omega)) ?_
      | refine QUON.pos (by omega) ?_
      | refine REMN.pos (by omega) ?_
      | refine REMN.mk (by omega) ?_
      | refine GETN.mk (by ((repeat first | refine Heap.room_get ?_ | refine Heap.set_skip (by omega) ?_ | refine Heap.new_skip (by ((repeat first | apply Heap.nx_set | apply Heap.nx_new | apply Heap.nx_kill | apply Heap.nx_room); first | assumption | rfl)) (by omega) ?_ | refine Exd.skip (by assumption) (by omega) ?_); first | assumption | exact Heap.set_at (by omega) | exact Heap.new_at (by ((repeat first | apply Heap.nx_set | apply Heap.nx_new | apply Heap.nx_kill | apply Heap.nx_room); first | assumption | rfl)) (by omega))) ?_
      | refine GETM.mk (by ((repeat first | refine Heap.room_get ?_ | refine Heap.set_skip (by omega) ?_ | refine Heap.new_skip (by ((repeat first | apply Heap.nx_set | apply Heap.nx_new | apply Heap.nx_kill | apply Heap.nx_room); first | assumption | rfl)) (by omega) ?_ | refine Exd.skip (by assumption) (by omega) ?_); first | assumption | exact Heap.set_at (by omega) | exact Heap.new_at (by ((repeat first | apply Heap.nx_set | apply Heap.nx_new | apply Heap.nx_kill | apply Heap.nx_room); first | assumption | rfl)) (by omega))) ?_
      | refine NEWN.mk (by ((repeat first | apply Heap.nx_set | apply Heap.nx_new | apply Heap.nx_kill | apply Heap.nx_room); first | assumption | rfl)) ?_
      | refine SETN.mk (by ((repeat first | refine Heap.room_get ?_ | refine Heap.set_skip (by omega) ?_ | refine Heap.new_skip (by ((repeat first | apply Heap.nx_set | apply Heap.nx_new | apply Heap.nx_kill | apply Heap.nx_room); first | assumption | rfl)) (by omega) ?_ | refine Exd.skip (by assumption) (by omega) ?_); first | assumption | exact Heap.set_at (by omega) | exact Heap.new_at (by ((repeat first | apply Heap.nx_set | apply Heap.nx_new | apply Heap.nx_kill | apply Heap.nx_room); first | assumption | rfl)) (by omega))) (by rfl) (by (first | decide | (simp; done) | (simp; omega))) ?_
      | refine DOESN.mk (by first | rfl | omega | (simp; done) | (simp; omega)) ?_
      | refine BC.yes (by assumption) ?_
      | refine BC.no (by assumption) ?_
      | refine BC.split (fun _ => ?_) (fun _ => ?_)
      | refine SOMEN.mk (by rfl) ?_
      | refine scopeC ?_
      | refine drawC0 (hist := fun _ => Heap.empty 0) rfl ?_
      | refine drawC (hist := fun _ => Heap.empty 0) rfl ?_
      | refine NUMN.mk (by ((repeat first | apply Heap.nx_set | apply Heap.nx_new | apply Heap.nx_kill | apply Heap.nx_room); first | assumption | rfl)) ?_
      | refine LOOKN.mk (by first | exact QV.load rfl (by ((repeat first | refine Heap.room_get ?_ | refine Heap.set_skip (by omega) ?_ | refine Heap.new_skip (by ((repeat first | apply Heap.nx_set | apply Heap.nx_new | apply Heap.nx_kill | apply Heap.nx_room); first | assumption | rfl)) (by omega) ?_ | refine Exd.skip (by assumption) (by omega) ?_); first | assumption | exact Heap.set_at (by omega) | exact Heap.new_at (by ((repeat first | apply Heap.nx_set | apply Heap.nx_new | apply Heap.nx_kill | apply Heap.nx_room); first | assumption | rfl)) (by omega))) (by rfl) | exact QV.loadA rfl (by ((repeat first | refine Heap.room_get ?_ | refine Heap.set_skip (by omega) ?_ | refine Heap.new_skip (by ((repeat first | apply Heap.nx_set | apply Heap.nx_new | apply Heap.nx_kill | apply Heap.nx_room); first | assumption | rfl)) (by omega) ?_ | refine Exd.skip (by assumption) (by omega) ?_); first | assumption | exact Heap.set_at (by omega) | exact Heap.new_at (by ((repeat first | apply Heap.nx_set | apply Heap.nx_new | apply Heap.nx_kill | apply Heap.nx_room); first | assumption | rfl)) (by omega))) (by rfl) (by rfl)) ?_)))
  all_goals first
    | exact yes (by assumption)
    | exact no (by assumption)

/-- The segment that begins there. -/
theorem give_cal {p b : Nat} {f s at_ : Int} {l : List Bool} {h : Heap} {Q : CVal → Heap → Prop} (hs : IsSegs h p b f s l) (r : InRange f s l.length)
    (yes : ∀ i (hi : i < l.length) h', l[i] = true → f + i * s = at_ → IsSegs h' p b f s (l.set i false) → Upd (fun j => j = b) h h' → Q (.bool true) h')
    (no : ∀ h', (∀ i (hi : i < l.length), l[i] = true → f + i * s ≠ at_) → IsSegs h' p b f s l → Exd h h' → Q (.bool false) h') : Cal tt 13 [.ptr p 0, .int .i64 at_] h Q := by
  have hs0 := hs
  obtain ⟨hp, hb, ne, lp, lb⟩ := hs
  refine Cal.run rfl rfl rfl rfl ?_
  (repeat' ((conv => whnf); (first
      | refine LTN.yes (by omega) ?_
      | refine LTN.no (by omega) ?_
      | refine LTN.mk (fun _ => ?_) (fun _ => ?_)
      | refine EQN.yes (by omega) ?_
      | refine EQN.no (by omega) ?_
      | refine EQN.mk (fun _ => ?_) (fun _ => ?_)
      | refine EQSN.yes (by first | rfl | assumption) ?_
      | refine EQSN.no (by first | decide | assumption) ?_
      | refine EQSN.mk (fun _ => ?_) (fun _ => ?_)
      | refine ARN.in (by omega) ?_
      | refine ARN.fits (by first | (apply u8_in; omega) | (apply i32_in; omega) | (apply u32_in; omega)) ?_
      | refine QUON.pos (by omega) ?_
      | refine REMN.pos (by omega) ?_
      | refine REMN.mk (by omega) ?_
      | refine GETN.mk (by ((repeat first | refine Heap.room_get ?_ | refine Heap.set_skip (by omega) ?_ | refine Heap.new_skip (by ((repeat first | apply Heap.nx_set | apply Heap.nx_new | apply Heap.nx_kill | apply Heap.nx_room); first | assumption | rfl)) (by omega) ?_ | refine Exd.skip (by assumption) (by omega) ?_); first | assumption | exact Heap.set_at (by omega) | exact Heap.new_at (by ((repeat first | apply Heap.nx_set | apply Heap.nx_new | apply Heap.nx_kill | apply Heap.nx_room); first | assumption | rfl)) (by omega))) ?_
      | refine GETM.mk (by ((repeat first | refine Heap.room_get ?_ | refine Heap.set_skip (by omega) ?_ | refine Heap.new_skip (by ((repeat first | apply Heap.nx_set | apply Heap.nx_new | apply Heap.nx_kill | apply Heap.nx_room); first | assumption | rfl)) (by omega) ?_ | refine Exd.skip (by assumption) (by omega) ?_); first | assumption | exact Heap.set_at (by omega) | exact Heap.new_at (by ((repeat first | apply Heap.nx_set | apply Heap.nx_new | apply Heap.nx_kill | apply Heap.nx_room); first | assumption | rfl)) (by omega))) ?_
      | refine NEWN.mk (by ((repeat first | apply Heap.nx_set | apply Heap.nx_new | apply Heap.nx_kill | apply Heap.nx_room); first | assumption | rfl)) ?_
      | refine SETN.mk (by ((repeat first | refine Heap.room_get ?_ | refine Heap.set_skip (by omega) ?_ | refine Heap.new_skip (by ((repeat first | apply Heap.nx_set | apply Heap.nx_new | apply Heap.nx_kill | apply Heap.nx_room); first | assumption | rfl)) (by omega) ?_ | refine Exd.skip (by assumption) (by omega) ?_); first | assumption | exact Heap.set_at (by omega) | exact Heap.new_at (by ((repeat first | apply Heap.nx_set | apply Heap.nx_new | apply Heap.nx_kill | apply Heap.nx_room); first | assumption | rfl)) (by omega))) (by rfl) (by (first | decide | (simp; done) | (simp; omega))) ?_
      | refine DOESN.mk (by first | rfl | omega | (simp; done) | (simp; omega)) ?_
      | refine BC.yes (by assumption) ?_
      | refine BC.no (by assumption) ?_
      | refine BC.split (fun _ => ?_) (fun _ => ?_)
      | refine SOMEN.mk (by rfl) ?_
      | refine scopeC ?_
      | refine drawC0 (hist := fun _ => Heap.empty 0) rfl ?_
      | refine drawC (hist := fun _ => Heap.empty 0) rfl ?_
      | refine NUMN.mk (by ((repeat first | apply Heap.nx_set | apply Heap.nx_new | apply Heap.nx_kill | apply Heap.nx_room); first | assumption | rfl)) ?_
      | refine LOOKN.mk (by first | exact QV.load rfl (by ((repeat first | refine Heap.room_get ?_ | refine Heap.set_skip (by omega) ?_ | refine Heap.new_skip (by ((repeat first | apply Heap.nx_set | apply Heap.nx_new | apply Heap.nx_kill | apply Heap.nx_room); first | assumption | rfl)) (by omega) ?_ | refine Exd.skip (by assumption) (by omega) ?_); first | assumption | exact Heap.set_at (by omega) | exact Heap.new_at (by ((repeat first | apply Heap.nx_set | apply Heap.nx_new | apply Heap.nx_kill | apply Heap.nx_room); first | assumption | rfl)) (by omega))) (by rfl) | exact QV.loadA rfl (by ((repeat first | refine Heap.room_get ?_ | refine Heap.set_skip (by omega) ?_ | refine Heap.new_skip (by ((repeat first | apply Heap.nx_set | apply Heap.nx_new | apply Heap.nx_kill | apply Heap.nx_room); first | assumption | rfl)) (by omega) ?_ | refine Exd.skip (by assumption) (by omega) ?_); first | assumption | exact Heap.set_at (by omega) | exact Heap.new_at (by ((repeat first | apply Heap.nx_set | apply Heap.nx_new | apply Heap.nx_kill | apply Heap.nx_room); first | assumption | rfl)) (by omega))) (by rfl) (by rfl)) ?_)))
  refine CALLN.of (those_cal (b := b) (f := f) (s := s) (l := l)
    (fun i h' => (Exd h h' ∧ h'.next = h.next + 1 + 1 + 1 ∧ h'.get h.next = some (.cells [.ptr p 0] true none) ∧ h'.get (h.next + 1) = some (.cells [.int .i64 at_] true none) ∧ h'.get (h.next + 1 + 1) = some (.cells [.bool false] true none)) ∧ ∀ j (hj : j < i) (hl : j < l.length), l[j] = true → f + j * s ≠ at_)
    (fun h' => (∃ i, ∃ hi : i < l.length, (l[i] = true ∧ f + i * s = at_) ∧ IsSegs h' p b f s (l.set i false) ∧ Upd (fun j => j = b) h h' ∧ h'.next = h.next + 1 + 1 + 1 ∧ h'.get (h.next + 1 + 1) = some (.cells [.bool true] true none)) ∨
      ((∀ j (hl : j < l.length), l[j] = true → f + j * s ≠ at_) ∧ Exd h h' ∧ h'.next = h.next + 1 + 1 + 1 ∧ h'.get (h.next + 1 + 1) = some (.cells [.bool false] true none)))
    (by have := r.2.2.2.2; omega) ?_ ⟨⟨(by (repeat' first | exact Exd.refl _ | assumption | refine Exd.new ?_ | refine Exd.set ?_ (by omega) | refine Exd.kill ?_ (by omega))), (by ((repeat first | apply Heap.nx_set | apply Heap.nx_new | apply Heap.nx_kill | apply Heap.nx_room); first | assumption | rfl)), (by ((repeat first | refine Heap.room_get ?_ | refine Heap.set_skip (by omega) ?_ | refine Heap.new_skip (by ((repeat first | apply Heap.nx_set | apply Heap.nx_new | apply Heap.nx_kill | apply Heap.nx_room); first | assumption | rfl)) (by omega) ?_ | refine Exd.skip (by assumption) (by omega) ?_); first | assumption | exact Heap.set_at (by omega) | exact Heap.new_at (by ((repeat first | apply Heap.nx_set | apply Heap.nx_new | apply Heap.nx_kill | apply Heap.nx_room); first | assumption | rfl)) (by omega))), (by ((repeat first | refine Heap.room_get ?_ | refine Heap.set_skip (by omega) ?_ | refine Heap.new_skip (by ((repeat first | apply Heap.nx_set | apply Heap.nx_new | apply Heap.nx_kill | apply Heap.nx_room); first | assumption | rfl)) (by omega) ?_ | refine Exd.skip (by assumption) (by omega) ?_); first | assumption | exact Heap.set_at (by omega) | exact Heap.new_at (by ((repeat first | apply Heap.nx_set | apply Heap.nx_new | apply Heap.nx_kill | apply Heap.nx_room); first | assumption | rfl)) (by omega))), (by ((repeat first | refine Heap.room_get ?_ | refine Heap.set_skip (by omega) ?_ | refine Heap.new_skip (by ((repeat first | apply Heap.nx_set | apply Heap.nx_new | apply Heap.nx_kill | apply Heap.nx_room); first | assumption | rfl)) (by omega) ?_ | refine Exd.skip (by assumption) (by omega) ?_); first | assumption | exact Heap.set_at (by omega) | exact Heap.new_at (by ((repeat first | apply Heap.nx_set | apply Heap.nx_new | apply Heap.nx_kill | apply Heap.nx_room); first | assumption | rfl)) (by omega)))⟩, fun j hj => by omega⟩ ⟨by ((repeat first | refine Heap.room_get ?_ | refine Heap.set_skip (by omega) ?_ | refine Heap.new_skip (by ((repeat first | apply Heap.nx_set | apply Heap.nx_new | apply Heap.nx_kill | apply Heap.nx_room); first | assumption | rfl)) (by omega) ?_ | refine Exd.skip (by assumption) (by omega) ?_); first | assumption | exact Heap.set_at (by omega) | exact Heap.new_at (by ((repeat first | apply Heap.nx_set | apply Heap.nx_new | apply Heap.nx_kill | apply Heap.nx_room); first | assumption | rfl)) (by omega)), by ((repeat first | refine Heap.room_get ?_ | refine Heap.set_skip (by omega) ?_ | refine Heap.new_skip (by ((repeat first | apply Heap.nx_set | apply Heap.nx_new | apply Heap.nx_kill | apply Heap.nx_room); first | assumption | rfl)) (by omega) ?_ | refine Exd.skip (by assumption) (by omega) ?_); first | assumption | exact Heap.set_at (by omega) | exact Heap.new_at (by ((repeat first | apply Heap.nx_set | apply Heap.nx_new | apply Heap.nx_kill | apply Heap.nx_room); first | assumption | rfl)) (by omega)), ne, (by (first | omega | (simp only [Heap.next_new]; omega) | (simp only [Heap.next_set]; omega) | (simp only [Heap.next_set, Heap.next_new]; omega) | (simp only [Heap.next_set, Heap.next_new, Heap.next_kill]; omega))), (by (first | omega | (simp only [Heap.next_new]; omega) | (simp only [Heap.next_set]; omega) | (simp only [Heap.next_set, Heap.next_new]; omega) | (simp only [Heap.next_set, Heap.next_new, Heap.next_kill]; omega)))⟩ ?_ ?_ ?_ ?_)
  · rintro i h' ⟨⟨e, _⟩, _⟩; exact Exd.skip e lb hb
  · rintro i h' hi hne ⟨q, ha⟩
    exact ⟨q, fun j hj hl => by
      rcases Nat.lt_or_ge j i with h1 | h1
      · exact ha j h1 hl
      · have : j = i := by omega
        subst this; exact fun h2 => (hne h2).elim⟩
  · rintro i h' hi he ⟨⟨e, en, e1, e2, e3⟩, ha⟩
    have hs' : IsSegs h' p b f s l := ⟨Exd.skip e lp hp, Exd.skip e lb hb, ne, by omega, by omega⟩
    refine give1_cal hs' r hi e1 e2 e3 (by omega) (fun eq => ?_) (fun eq => ?_)
    · exact .inr ⟨rfl, .inl ⟨i, hi, ⟨he, eq⟩, ⟨by rw [List.length_set]; refine Heap.set_skip (by omega) (Heap.set_skip (by omega) (Exd.skip e lp hp)), by ((repeat first | refine Heap.room_get ?_ | refine Heap.set_skip (by omega) ?_ | refine Heap.new_skip (by ((repeat first | apply Heap.nx_set | apply Heap.nx_new | apply Heap.nx_kill | apply Heap.nx_room); first | assumption | rfl)) (by omega) ?_ | refine Exd.skip (by assumption) (by omega) ?_); first | assumption | exact Heap.set_at (by omega) | exact Heap.new_at (by ((repeat first | apply Heap.nx_set | apply Heap.nx_new | apply Heap.nx_kill | apply Heap.nx_room); first | assumption | rfl)) (by omega)), ne, (by (first | omega | (simp only [Heap.next_new]; omega) | (simp only [Heap.next_set]; omega) | (simp only [Heap.next_set, Heap.next_new]; omega) | (simp only [Heap.next_set, Heap.next_new, Heap.next_kill]; omega))), (by (first | omega | (simp only [Heap.next_new]; omega) | (simp only [Heap.next_set]; omega) | (simp only [Heap.next_set, Heap.next_new]; omega) | (simp only [Heap.next_set, Heap.next_new, Heap.next_kill]; omega)))⟩, Upd.set (Upd.set e.upd (by right; omega)) (by left; rfl), (by ((repeat first | apply Heap.nx_set | apply Heap.nx_new | apply Heap.nx_kill | apply Heap.nx_room); first | assumption | rfl)), by ((repeat first | refine Heap.room_get ?_ | refine Heap.set_skip (by omega) ?_ | refine Heap.new_skip (by ((repeat first | apply Heap.nx_set | apply Heap.nx_new | apply Heap.nx_kill | apply Heap.nx_room); first | assumption | rfl)) (by omega) ?_ | refine Exd.skip (by assumption) (by omega) ?_); first | assumption | exact Heap.set_at (by omega) | exact Heap.new_at (by ((repeat first | apply Heap.nx_set | apply Heap.nx_new | apply Heap.nx_kill | apply Heap.nx_room); first | assumption | rfl)) (by omega))⟩⟩
    · refine .inl ⟨rfl, ⟨Exd.set e (by omega), (by ((repeat first | apply Heap.nx_set | apply Heap.nx_new | apply Heap.nx_kill | apply Heap.nx_room); first | assumption | rfl)), by ((repeat first | refine Heap.room_get ?_ | refine Heap.set_skip (by omega) ?_ | refine Heap.new_skip (by ((repeat first | apply Heap.nx_set | apply Heap.nx_new | apply Heap.nx_kill | apply Heap.nx_room); first | assumption | rfl)) (by omega) ?_ | refine Exd.skip (by assumption) (by omega) ?_); first | assumption | exact Heap.set_at (by omega) | exact Heap.new_at (by ((repeat first | apply Heap.nx_set | apply Heap.nx_new | apply Heap.nx_kill | apply Heap.nx_room); first | assumption | rfl)) (by omega)), by ((repeat first | refine Heap.room_get ?_ | refine Heap.set_skip (by omega) ?_ | refine Heap.new_skip (by ((repeat first | apply Heap.nx_set | apply Heap.nx_new | apply Heap.nx_kill | apply Heap.nx_room); first | assumption | rfl)) (by omega) ?_ | refine Exd.skip (by assumption) (by omega) ?_); first | assumption | exact Heap.set_at (by omega) | exact Heap.new_at (by ((repeat first | apply Heap.nx_set | apply Heap.nx_new | apply Heap.nx_kill | apply Heap.nx_room); first | assumption | rfl)) (by omega)), by ((repeat first | refine Heap.room_get ?_ | refine Heap.set_skip (by omega) ?_ | refine Heap.new_skip (by ((repeat first | apply Heap.nx_set | apply Heap.nx_new | apply Heap.nx_kill | apply Heap.nx_room); first | assumption | rfl)) (by omega) ?_ | refine Exd.skip (by assumption) (by omega) ?_); first | assumption | exact Heap.set_at (by omega) | exact Heap.new_at (by ((repeat first | apply Heap.nx_set | apply Heap.nx_new | apply Heap.nx_kill | apply Heap.nx_room); first | assumption | rfl)) (by omega))⟩, fun j hj hl => ?_⟩
      rcases Nat.lt_or_ge j i with h1 | h1
      · exact ha j h1 hl
      · have : j = i := by omega
        subst this; exact fun _ => eq
  · rintro h' ⟨⟨e, en, e1, e2, e3⟩, ha⟩
    exact .inr ⟨fun j hl => ha j hl hl, e, en, e3⟩
  · rintro h' (⟨i, hi, ⟨h1, h2⟩, q, u, en, g⟩ | ⟨h1, e, en, g⟩)
    · obtain ⟨hp', hb', _, lp', lb'⟩ := q
      (repeat' ((conv => whnf); (first
      | refine LTN.yes (by omega) ?_
      | refine LTN.no (by omega) ?_
      | refine LTN.mk (fun _ => ?_) (fun _ => ?_)
      | refine EQN.yes (by omega) ?_
      | refine EQN.no (by omega) ?_
      | refine EQN.mk (fun _ => ?_) (fun _ => ?_)
      | refine EQSN.yes (by first | rfl | assumption) ?_
      | refine EQSN.no (by first | decide | assumption) ?_
      | refine EQSN.mk (fun _ => ?_) (fun _ => ?_)
      | refine ARN.in (by omega) ?_
      | refine ARN.fits (by first | (apply u8_in; omega) | (apply i32_in; omega) | (apply u32_in; omega)) ?_
      | refine QUON.pos (by omega) ?_
      | refine REMN.pos (by omega) ?_
      | refine REMN.mk (by omega) ?_
      | refine GETN.mk (by ((repeat first | refine Heap.room_get ?_ | refine Heap.set_skip (by omega) ?_ | refine Heap.new_skip (by ((repeat first | apply Heap.nx_set | apply Heap.nx_new | apply Heap.nx_kill | apply Heap.nx_room); first | assumption | rfl)) (by omega) ?_ | refine Exd.skip (by assumption) (by omega) ?_); first | assumption | exact Heap.set_at (by omega) | exact Heap.new_at (by ((repeat first | apply Heap.nx_set | apply Heap.nx_new | apply Heap.nx_kill | apply Heap.nx_room); first | assumption | rfl)) (by omega))) ?_
      | refine GETM.mk (by ((repeat first | refine Heap.room_get ?_ | refine Heap.set_skip (by omega) ?_ | refine Heap.new_skip (by ((repeat first | apply Heap.nx_set | apply Heap.nx_new | apply Heap.nx_kill | apply Heap.nx_room); first | assumption | rfl)) (by omega) ?_ | refine Exd.skip (by assumption) (by omega) ?_); first | assumption | exact Heap.set_at (by omega) | exact Heap.new_at (by ((repeat first | apply Heap.nx_set | apply Heap.nx_new | apply Heap.nx_kill | apply Heap.nx_room); first | assumption | rfl)) (by omega))) ?_
      | refine NEWN.mk (by ((repeat first | apply Heap.nx_set | apply Heap.nx_new | apply Heap.nx_kill | apply Heap.nx_room); first | assumption | rfl)) ?_
      | refine SETN.mk (by ((repeat first | refine Heap.room_get ?_ | refine Heap.set_skip (by omega) ?_ | refine Heap.new_skip (by ((repeat first | apply Heap.nx_set | apply Heap.nx_new | apply Heap.nx_kill | apply Heap.nx_room); first | assumption | rfl)) (by omega) ?_ | refine Exd.skip (by assumption) (by omega) ?_); first | assumption | exact Heap.set_at (by omega) | exact Heap.new_at (by ((repeat first | apply Heap.nx_set | apply Heap.nx_new | apply Heap.nx_kill | apply Heap.nx_room); first | assumption | rfl)) (by omega))) (by rfl) (by (first | decide | (simp; done) | (simp; omega))) ?_
      | refine DOESN.mk (by first | rfl | omega | (simp; done) | (simp; omega)) ?_
      | refine BC.yes (by assumption) ?_
      | refine BC.no (by assumption) ?_
      | refine BC.split (fun _ => ?_) (fun _ => ?_)
      | refine SOMEN.mk (by rfl) ?_
      | refine scopeC ?_
      | refine drawC0 (hist := fun _ => Heap.empty 0) rfl ?_
      | refine drawC (hist := fun _ => Heap.empty 0) rfl ?_
      | refine NUMN.mk (by ((repeat first | apply Heap.nx_set | apply Heap.nx_new | apply Heap.nx_kill | apply Heap.nx_room); first | assumption | rfl)) ?_
      | refine LOOKN.mk (by first | exact QV.load rfl (by ((repeat first | refine Heap.room_get ?_ | refine Heap.set_skip (by omega) ?_ | refine Heap.new_skip (by ((repeat first | apply Heap.nx_set | apply Heap.nx_new | apply Heap.nx_kill | apply Heap.nx_room); first | assumption | rfl)) (by omega) ?_ | refine Exd.skip (by assumption) (by omega) ?_); first | assumption | exact Heap.set_at (by omega) | exact Heap.new_at (by ((repeat first | apply Heap.nx_set | apply Heap.nx_new | apply Heap.nx_kill | apply Heap.nx_room); first | assumption | rfl)) (by omega))) (by rfl) | exact QV.loadA rfl (by ((repeat first | refine Heap.room_get ?_ | refine Heap.set_skip (by omega) ?_ | refine Heap.new_skip (by ((repeat first | apply Heap.nx_set | apply Heap.nx_new | apply Heap.nx_kill | apply Heap.nx_room); first | assumption | rfl)) (by omega) ?_ | refine Exd.skip (by assumption) (by omega) ?_); first | assumption | exact Heap.set_at (by omega) | exact Heap.new_at (by ((repeat first | apply Heap.nx_set | apply Heap.nx_new | apply Heap.nx_kill | apply Heap.nx_room); first | assumption | rfl)) (by omega))) (by rfl) (by rfl)) ?_)))
      exact yes i hi _ h1 h2 ⟨by ((repeat first | refine Heap.room_get ?_ | refine Heap.set_skip (by omega) ?_ | refine Heap.new_skip (by ((repeat first | apply Heap.nx_set | apply Heap.nx_new | apply Heap.nx_kill | apply Heap.nx_room); first | assumption | rfl)) (by omega) ?_ | refine Exd.skip (by assumption) (by omega) ?_); first | assumption | exact Heap.set_at (by omega) | exact Heap.new_at (by ((repeat first | apply Heap.nx_set | apply Heap.nx_new | apply Heap.nx_kill | apply Heap.nx_room); first | assumption | rfl)) (by omega)), by ((repeat first | refine Heap.room_get ?_ | refine Heap.set_skip (by omega) ?_ | refine Heap.new_skip (by ((repeat first | apply Heap.nx_set | apply Heap.nx_new | apply Heap.nx_kill | apply Heap.nx_room); first | assumption | rfl)) (by omega) ?_ | refine Exd.skip (by assumption) (by omega) ?_); first | assumption | exact Heap.set_at (by omega) | exact Heap.new_at (by ((repeat first | apply Heap.nx_set | apply Heap.nx_new | apply Heap.nx_kill | apply Heap.nx_room); first | assumption | rfl)) (by omega)), ne, (by (first | omega | (simp only [Heap.next_new]; omega) | (simp only [Heap.next_set]; omega) | (simp only [Heap.next_set, Heap.next_new]; omega) | (simp only [Heap.next_set, Heap.next_new, Heap.next_kill]; omega))), (by (first | omega | (simp only [Heap.next_new]; omega) | (simp only [Heap.next_set]; omega) | (simp only [Heap.next_set, Heap.next_new]; omega) | (simp only [Heap.next_set, Heap.next_new, Heap.next_kill]; omega)))⟩ (Upd.set u (by right; omega))
    · have hp' := Exd.skip e lp hp
      have hb' := Exd.skip e lb hb
      (repeat' ((conv => whnf); (first
      | refine LTN.yes (by omega) ?_
      | refine LTN.no (by omega) ?_
      | refine LTN.mk (fun _ => ?_) (fun _ => ?_)
      | refine EQN.yes (by omega) ?_
      | refine EQN.no (by omega) ?_
      | refine EQN.mk (fun _ => ?_) (fun _ => ?_)
      | refine EQSN.yes (by first | rfl | assumption) ?_
      | refine EQSN.no (by first | decide | assumption) ?_
      | refine EQSN.mk (fun _ => ?_) (fun _ => ?_)
      | refine ARN.in (by omega) ?_
      | refine ARN.fits (by first | (apply u8_in; omega) | (apply i32_in; omega) | (apply u32_in; omega)) ?_
      | refine QUON.pos (by omega) ?_
      | refine REMN.pos (by omega) ?_
      | refine REMN.mk (by omega) ?_
      | refine GETN.mk (by ((repeat first | refine Heap.room_get ?_ | refine Heap.set_skip (by omega) ?_ | refine Heap.new_skip (by ((repeat first | apply Heap.nx_set | apply Heap.nx_new | apply Heap.nx_kill | apply Heap.nx_room); first | assumption | rfl)) (by omega) ?_ | refine Exd.skip (by assumption) (by omega) ?_); first | assumption | exact Heap.set_at (by omega) | exact Heap.new_at (by ((repeat first | apply Heap.nx_set | apply Heap.nx_new | apply Heap.nx_kill | apply Heap.nx_room); first | assumption | rfl)) (by omega))) ?_
      | refine GETM.mk (by ((repeat first | refine Heap.room_get ?_ | refine Heap.set_skip (by omega) ?_ | refine Heap.new_skip (by ((repeat first | apply Heap.nx_set | apply Heap.nx_new | apply Heap.nx_kill | apply Heap.nx_room); first | assumption | rfl)) (by omega) ?_ | refine Exd.skip (by assumption) (by omega) ?_); first | assumption | exact Heap.set_at (by omega) | exact Heap.new_at (by ((repeat first | apply Heap.nx_set | apply Heap.nx_new | apply Heap.nx_kill | apply Heap.nx_room); first | assumption | rfl)) (by omega))) ?_
      | refine NEWN.mk (by ((repeat first | apply Heap.nx_set | apply Heap.nx_new | apply Heap.nx_kill | apply Heap.nx_room); first | assumption | rfl)) ?_
      | refine SETN.mk (by ((repeat first | refine Heap.room_get ?_ | refine Heap.set_skip (by omega) ?_ | refine Heap.new_skip (by ((repeat first | apply Heap.nx_set | apply Heap.nx_new | apply Heap.nx_kill | apply Heap.nx_room); first | assumption | rfl)) (by omega) ?_ | refine Exd.skip (by assumption) (by omega) ?_); first | assumption | exact Heap.set_at (by omega) | exact Heap.new_at (by ((repeat first | apply Heap.nx_set | apply Heap.nx_new | apply Heap.nx_kill | apply Heap.nx_room); first | assumption | rfl)) (by omega))) (by rfl) (by (first | decide | (simp; done) | (simp; omega))) ?_
      | refine DOESN.mk (by first | rfl | omega | (simp; done) | (simp; omega)) ?_
      | refine BC.yes (by assumption) ?_
      | refine BC.no (by assumption) ?_
      | refine BC.split (fun _ => ?_) (fun _ => ?_)
      | refine SOMEN.mk (by rfl) ?_
      | refine scopeC ?_
      | refine drawC0 (hist := fun _ => Heap.empty 0) rfl ?_
      | refine drawC (hist := fun _ => Heap.empty 0) rfl ?_
      | refine NUMN.mk (by ((repeat first | apply Heap.nx_set | apply Heap.nx_new | apply Heap.nx_kill | apply Heap.nx_room); first | assumption | rfl)) ?_
      | refine LOOKN.mk (by first | exact QV.load rfl (by ((repeat first | refine Heap.room_get ?_ | refine Heap.set_skip (by omega) ?_ | refine Heap.new_skip (by ((repeat first | apply Heap.nx_set | apply Heap.nx_new | apply Heap.nx_kill | apply Heap.nx_room); first | assumption | rfl)) (by omega) ?_ | refine Exd.skip (by assumption) (by omega) ?_); first | assumption | exact Heap.set_at (by omega) | exact Heap.new_at (by ((repeat first | apply Heap.nx_set | apply Heap.nx_new | apply Heap.nx_kill | apply Heap.nx_room); first | assumption | rfl)) (by omega))) (by rfl) | exact QV.loadA rfl (by ((repeat first | refine Heap.room_get ?_ | refine Heap.set_skip (by omega) ?_ | refine Heap.new_skip (by ((repeat first | apply Heap.nx_set | apply Heap.nx_new | apply Heap.nx_kill | apply Heap.nx_room); first | assumption | rfl)) (by omega) ?_ | refine Exd.skip (by assumption) (by omega) ?_); first | assumption | exact Heap.set_at (by omega) | exact Heap.new_at (by ((repeat first | apply Heap.nx_set | apply Heap.nx_new | apply Heap.nx_kill | apply Heap.nx_room); first | assumption | rfl)) (by omega))) (by rfl) (by rfl)) ?_)))
      exact no _ h1 ⟨by ((repeat first | refine Heap.room_get ?_ | refine Heap.set_skip (by omega) ?_ | refine Heap.new_skip (by ((repeat first | apply Heap.nx_set | apply Heap.nx_new | apply Heap.nx_kill | apply Heap.nx_room); first | assumption | rfl)) (by omega) ?_ | refine Exd.skip (by assumption) (by omega) ?_); first | assumption | exact Heap.set_at (by omega) | exact Heap.new_at (by ((repeat first | apply Heap.nx_set | apply Heap.nx_new | apply Heap.nx_kill | apply Heap.nx_room); first | assumption | rfl)) (by omega)), by ((repeat first | refine Heap.room_get ?_ | refine Heap.set_skip (by omega) ?_ | refine Heap.new_skip (by ((repeat first | apply Heap.nx_set | apply Heap.nx_new | apply Heap.nx_kill | apply Heap.nx_room); first | assumption | rfl)) (by omega) ?_ | refine Exd.skip (by assumption) (by omega) ?_); first | assumption | exact Heap.set_at (by omega) | exact Heap.new_at (by ((repeat first | apply Heap.nx_set | apply Heap.nx_new | apply Heap.nx_kill | apply Heap.nx_room); first | assumption | rfl)) (by omega)), ne, (by (first | omega | (simp only [Heap.next_new]; omega) | (simp only [Heap.next_set]; omega) | (simp only [Heap.next_set, Heap.next_new]; omega) | (simp only [Heap.next_set, Heap.next_new, Heap.next_kill]; omega))), (by (first | omega | (simp only [Heap.next_new]; omega) | (simp only [Heap.next_set]; omega) | (simp only [Heap.next_set, Heap.next_new]; omega) | (simp only [Heap.next_set, Heap.next_new, Heap.next_kill]; omega)))⟩ (by (repeat' first | exact Exd.refl _ | assumption | refine Exd.new ?_ | refine Exd.set ?_ (by omega) | refine Exd.kill ?_ (by omega)))

theorem giveN_cal {a : Int} {h : Heap} {Q : CVal → Heap → Prop} (k : ∀ h', Exd h h' → Q (.bool false) h') : Cal tt 13 [.nilPtr, .int .i64 a] h Q := by
  refine Cal.run rfl rfl rfl rfl ?_
  (repeat' ((conv => whnf); (first
      | refine CALLN.of (thoseN_cal ?_)
      | refine LTN.yes (by omega) ?_
      | refine LTN.no (by omega) ?_
      | refine LTN.mk (fun _ => ?_) (fun _ => ?_)
      | refine EQN.yes (by omega) ?_
      | refine EQN.no (by omega) ?_
      | refine EQN.mk (fun _ => ?_) (fun _ => ?_)
      | refine EQSN.yes (by first | rfl | assumption) ?_
      | refine EQSN.no (by first | decide | assumption) ?_
      | refine EQSN.mk (fun _ => ?_) (fun _ => ?_)
      | refine ARN.in (by omega) ?_
      | refine ARN.fits (by first | (apply u8_in; omega) | (apply i32_in; omega) | (apply u32_in; omega)) ?_
      | refine QUON.pos (by omega) ?_
      | refine REMN.pos (by omega) ?_
      | refine REMN.mk (by omega) ?_
      | refine GETN.mk (by ((repeat first | refine Heap.room_get ?_ | refine Heap.set_skip (by omega) ?_ | refine Heap.new_skip (by ((repeat first | apply Heap.nx_set | apply Heap.nx_new | apply Heap.nx_kill | apply Heap.nx_room); first | assumption | rfl)) (by omega) ?_ | refine Exd.skip (by assumption) (by omega) ?_); first | assumption | exact Heap.set_at (by omega) | exact Heap.new_at (by ((repeat first | apply Heap.nx_set | apply Heap.nx_new | apply Heap.nx_kill | apply Heap.nx_room); first | assumption | rfl)) (by omega))) ?_
      | refine GETM.mk (by ((repeat first | refine Heap.room_get ?_ | refine Heap.set_skip (by omega) ?_ | refine Heap.new_skip (by ((repeat first | apply Heap.nx_set | apply Heap.nx_new | apply Heap.nx_kill | apply Heap.nx_room); first | assumption | rfl)) (by omega) ?_ | refine Exd.skip (by assumption) (by omega) ?_); first | assumption | exact Heap.set_at (by omega) | exact Heap.new_at (by ((repeat first | apply Heap.nx_set | apply Heap.nx_new | apply Heap.nx_kill | apply Heap.nx_room); first | assumption | rfl)) (by omega))) ?_
      | refine NEWN.mk (by ((repeat first | apply Heap.nx_set | apply Heap.nx_new | apply Heap.nx_kill | apply Heap.nx_room); first | assumption | rfl)) ?_
      | refine SETN.mk (by ((repeat first | refine Heap.room_get ?_ | refine Heap.set_skip (by omega) ?_ | refine Heap.new_skip (by ((repeat first | apply Heap.nx_set | apply Heap.nx_new | apply Heap.nx_kill | apply Heap.nx_room); first | assumption | rfl)) (by omega) ?_ | refine Exd.skip (by assumption) (by omega) ?_); first | assumption | exact Heap.set_at (by omega) | exact Heap.new_at (by ((repeat first | apply Heap.nx_set | apply Heap.nx_new | apply Heap.nx_kill | apply Heap.nx_room); first | assumption | rfl)) (by omega))) (by rfl) (by (first | decide | (simp; done) | (simp; omega))) ?_
      | refine DOESN.mk (by first | rfl | omega | (simp; done) | (simp; omega)) ?_
      | refine BC.yes (by assumption) ?_
      | refine BC.no (by assumption) ?_
      | refine BC.split (fun _ => ?_) (fun _ => ?_)
      | refine SOMEN.mk (by rfl) ?_
      | refine scopeC ?_
      | refine drawC0 (hist := fun _ => Heap.empty 0) rfl ?_
      | refine drawC (hist := fun _ => Heap.empty 0) rfl ?_
      | refine NUMN.mk (by ((repeat first | apply Heap.nx_set | apply Heap.nx_new | apply Heap.nx_kill | apply Heap.nx_room); first | assumption | rfl)) ?_
      | refine LOOKN.mk (by first | exact QV.load rfl (by ((repeat first | refine Heap.room_get ?_ | refine Heap.set_skip (by omega) ?_ | refine Heap.new_skip (by ((repeat first | apply Heap.nx_set | apply Heap.nx_new | apply Heap.nx_kill | apply Heap.nx_room); first | assumption | rfl)) (by omega) ?_ | refine Exd.skip (by assumption) (by omega) ?_); first | assumption | exact Heap.set_at (by omega) | exact Heap.new_at (by ((repeat first | apply Heap.nx_set | apply Heap.nx_new | apply Heap.nx_kill | apply Heap.nx_room); first | assumption | rfl)) (by omega))) (by rfl) | exact QV.loadA rfl (by ((repeat first | refine Heap.room_get ?_ | refine Heap.set_skip (by omega) ?_ | refine Heap.new_skip (by ((repeat first | apply Heap.nx_set | apply Heap.nx_new | apply Heap.nx_kill | apply Heap.nx_room); first | assumption | rfl)) (by omega) ?_ | refine Exd.skip (by assumption) (by omega) ?_); first | assumption | exact Heap.set_at (by omega) | exact Heap.new_at (by ((repeat first | apply Heap.nx_set | apply Heap.nx_new | apply Heap.nx_kill | apply Heap.nx_room); first | assumption | rfl)) (by omega))) (by rfl) (by rfl)) ?_)))
  exact k _ (by (repeat' first | exact Exd.refl _ | assumption | refine Exd.new ?_ | refine Exd.set ?_ (by omega) | refine Exd.kill ?_ (by omega)))

theorem freeN_cal {h : Heap} {Q : CVal → Heap → Prop} (k : ∀ h', Exd h h' → Q (.int .i64 0) h') : Cal tt 11 [.nilPtr] h Q := by
  refine Cal.run rfl rfl rfl rfl ?_
  (repeat' ((conv => whnf); (first
      | refine CALLN.of (thoseN_cal ?_)
      | refine LTN.yes (by omega) ?_
      | refine LTN.no (by omega) ?_
      | refine LTN.mk (fun _ => ?_) (fun _ => ?_)
      | refine EQN.yes (by omega) ?_
      | refine EQN.no (by omega) ?_
      | refine EQN.mk (fun _ => ?_) (fun _ => ?_)
      | refine EQSN.yes (by first | rfl | assumption) ?_
      | refine EQSN.no (by first | decide | assumption) ?_
      | refine EQSN.mk (fun _ => ?_) (fun _ => ?_)
      | refine ARN.in (by omega) ?_
      | refine ARN.fits (by first | (apply u8_in; omega) | (apply i32_in; omega) | (apply u32_in; omega)) ?_
      | refine QUON.pos (by omega) ?_
      | refine REMN.pos (by omega) ?_
      | refine REMN.mk (by omega) ?_
      | refine GETN.mk (by ((repeat first | refine Heap.room_get ?_ | refine Heap.set_skip (by omega) ?_ | refine Heap.new_skip (by ((repeat first | apply Heap.nx_set | apply Heap.nx_new | apply Heap.nx_kill | apply Heap.nx_room); first | assumption | rfl)) (by omega) ?_ | refine Exd.skip (by assumption) (by omega) ?_); first | assumption | exact Heap.set_at (by omega) | exact Heap.new_at (by ((repeat first | apply Heap.nx_set | apply Heap.nx_new | apply Heap.nx_kill | apply Heap.nx_room); first | assumption | rfl)) (by omega))) ?_
      | refine GETM.mk (by ((repeat first | refine Heap.room_get ?_ | refine Heap.set_skip (by omega) ?_ | refine Heap.new_skip (by ((repeat first | apply Heap.nx_set | apply Heap.nx_new | apply Heap.nx_kill | apply Heap.nx_room); first | assumption | rfl)) (by omega) ?_ | refine Exd.skip (by assumption) (by omega) ?_); first | assumption | exact Heap.set_at (by omega) | exact Heap.new_at (by ((repeat first | apply Heap.nx_set | apply Heap.nx_new | apply Heap.nx_kill | apply Heap.nx_room); first | assumption | rfl)) (by omega))) ?_
      | refine NEWN.mk (by ((repeat first | apply Heap.nx_set | apply Heap.nx_new | apply Heap.nx_kill | apply Heap.nx_room); first | assumption | rfl)) ?_
      | refine SETN.mk (by ((repeat first | refine Heap.room_get ?_ | refine Heap.set_skip (by omega) ?_ | refine Heap.new_skip (by ((repeat first | apply Heap.nx_set | apply Heap.nx_new | apply Heap.nx_kill | apply Heap.nx_room); first | assumption | rfl)) (by omega) ?_ | refine Exd.skip (by assumption) (by omega) ?_); first | assumption | exact Heap.set_at (by omega) | exact Heap.new_at (by ((repeat first | apply Heap.nx_set | apply Heap.nx_new | apply Heap.nx_kill | apply Heap.nx_room); first | assumption | rfl)) (by omega))) (by rfl) (by (first | decide | (simp; done) | (simp; omega))) ?_
      | refine DOESN.mk (by first | rfl | omega | (simp; done) | (simp; omega)) ?_
      | refine BC.yes (by assumption) ?_
      | refine BC.no (by assumption) ?_
      | refine BC.split (fun _ => ?_) (fun _ => ?_)
      | refine SOMEN.mk (by rfl) ?_
      | refine scopeC ?_
      | refine drawC0 (hist := fun _ => Heap.empty 0) rfl ?_
      | refine drawC (hist := fun _ => Heap.empty 0) rfl ?_
      | refine NUMN.mk (by ((repeat first | apply Heap.nx_set | apply Heap.nx_new | apply Heap.nx_kill | apply Heap.nx_room); first | assumption | rfl)) ?_
      | refine LOOKN.mk (by first | exact QV.load rfl (by ((repeat first | refine Heap.room_get ?_ | refine Heap.set_skip (by omega) ?_ | refine Heap.new_skip (by ((repeat first | apply Heap.nx_set | apply Heap.nx_new | apply Heap.nx_kill | apply Heap.nx_room); first | assumption | rfl)) (by omega) ?_ | refine Exd.skip (by assumption) (by omega) ?_); first | assumption | exact Heap.set_at (by omega) | exact Heap.new_at (by ((repeat first | apply Heap.nx_set | apply Heap.nx_new | apply Heap.nx_kill | apply Heap.nx_room); first | assumption | rfl)) (by omega))) (by rfl) | exact QV.loadA rfl (by ((repeat first | refine Heap.room_get ?_ | refine Heap.set_skip (by omega) ?_ | refine Heap.new_skip (by ((repeat first | apply Heap.nx_set | apply Heap.nx_new | apply Heap.nx_kill | apply Heap.nx_room); first | assumption | rfl)) (by omega) ?_ | refine Exd.skip (by assumption) (by omega) ?_); first | assumption | exact Heap.set_at (by omega) | exact Heap.new_at (by ((repeat first | apply Heap.nx_set | apply Heap.nx_new | apply Heap.nx_kill | apply Heap.nx_room); first | assumption | rfl)) (by omega))) (by rfl) (by rfl)) ?_)))
  exact k _ (by (repeat' first | exact Exd.refl _ | assumption | refine Exd.new ?_ | refine Exd.set ?_ (by omega) | refine Exd.kill ?_ (by omega)))

theorem takenN_cal {h : Heap} {Q : CVal → Heap → Prop} (k : ∀ h', Exd h h' → Q .nilSlice h') : Cal tt 12 [.nilPtr] h Q := by
  refine Cal.run rfl rfl rfl rfl ?_
  (repeat' ((conv => whnf); (first
      | refine CALLN.of (thoseN_cal ?_)
      | refine LTN.yes (by omega) ?_
      | refine LTN.no (by omega) ?_
      | refine LTN.mk (fun _ => ?_) (fun _ => ?_)
      | refine EQN.yes (by omega) ?_
      | refine EQN.no (by omega) ?_
      | refine EQN.mk (fun _ => ?_) (fun _ => ?_)
      | refine EQSN.yes (by first | rfl | assumption) ?_
      | refine EQSN.no (by first | decide | assumption) ?_
      | refine EQSN.mk (fun _ => ?_) (fun _ => ?_)
      | refine ARN.in (by omega) ?_
      | refine ARN.fits (by first | (apply u8_in; omega) | (apply i32_in; omega) | (apply u32_in; omega)) ?_
      | refine QUON.pos (by omega) ?_
      | refine REMN.pos (by omega) ?_
      | refine REMN.mk (by omega) ?_
      | refine GETN.mk (by ((repeat first | refine Heap.room_get ?_ | refine Heap.set_skip (by omega) ?_ | refine Heap.new_skip (by ((repeat first | apply Heap.nx_set | apply Heap.nx_new | apply Heap.nx_kill | apply Heap.nx_room); first | assumption | rfl)) (by omega) ?_ | refine Exd.skip (by assumption) (by omega) ?_); first | assumption | exact Heap.set_at (by omega) | exact Heap.new_at (by ((repeat first | apply Heap.nx_set | apply Heap.nx_new | apply Heap.nx_kill | apply Heap.nx_room); first | assumption | rfl)) (by omega))) ?_
      | refine GETM.mk (by ((repeat first | refine Heap.room_get ?_ | refine Heap.set_skip (by omega) ?_ | refine Heap.new_skip (by ((repeat first | apply Heap.nx_set | apply Heap.nx_new | apply Heap.nx_kill | apply Heap.nx_room); first | assumption | rfl)) (by omega) ?_ | refine Exd.skip (by assumption) (by omega) ?_); first | assumption | exact Heap.set_at (by omega) | exact Heap.new_at (by ((repeat first | apply Heap.nx_set | apply Heap.nx_new | apply Heap.nx_kill | apply Heap.nx_room); first | assumption | rfl)) (by omega))) ?_
      | refine NEWN.mk (by ((repeat first | apply Heap.nx_set | apply Heap.nx_new | apply Heap.nx_kill | apply Heap.nx_room); first | assumption | rfl)) ?_
      | refine SETN.mk (by ((repeat first | refine Heap.room_get ?_ | refine Heap.set_skip (by omega) ?_ | refine Heap.new_skip (by ((repeat first | apply Heap.nx_set | apply Heap.nx_new | apply Heap.nx_kill | apply Heap.nx_room); first | assumption | rfl)) (by omega) ?_ | refine Exd.skip (by assumption) (by omega) ?_); first | assumption | exact Heap.set_at (by omega) | exact Heap.new_at (by ((repeat first | apply Heap.nx_set | apply Heap.nx_new | apply Heap.nx_kill | apply Heap.nx_room); first | assumption | rfl)) (by omega))) (by rfl) (by (first | decide | (simp; done) | (simp; omega))) ?_
      | refine DOESN.mk (by first | rfl | omega | (simp; done) | (simp; omega)) ?_
      | refine BC.yes (by assumption) ?_
      | refine BC.no (by assumption) ?_
      | refine BC.split (fun _ => ?_) (fun _ => ?_)
      | refine SOMEN.mk (by rfl) ?_
      | refine scopeC ?_
      | refine drawC0 (hist := fun _ => Heap.empty 0) rfl ?_
      | refine drawC (hist := fun _ => Heap.empty 0) rfl ?_
      | refine NUMN.mk (by ((repeat first | apply Heap.nx_set | apply Heap.nx_new | apply Heap.nx_kill | apply Heap.nx_room); first | assumption | rfl)) ?_
      | refine LOOKN.mk (by first | exact QV.load rfl (by ((repeat first | refine Heap.room_get ?_ | refine Heap.set_skip (by omega) ?_ | refine Heap.new_skip (by ((repeat first | apply Heap.nx_set | apply Heap.nx_new | apply Heap.nx_kill | apply Heap.nx_room); first | assumption | rfl)) (by omega) ?_ | refine Exd.skip (by assumption) (by omega) ?_); first | assumption | exact Heap.set_at (by omega) | exact Heap.new_at (by ((repeat first | apply Heap.nx_set | apply Heap.nx_new | apply Heap.nx_kill | apply Heap.nx_room); first | assumption | rfl)) (by omega))) (by rfl) | exact QV.loadA rfl (by ((repeat first | refine Heap.room_get ?_ | refine Heap.set_skip (by omega) ?_ | refine Heap.new_skip (by ((repeat first | apply Heap.nx_set | apply Heap.nx_new | apply Heap.nx_kill | apply Heap.nx_room); first | assumption | rfl)) (by omega) ?_ | refine Exd.skip (by assumption) (by omega) ?_); first | assumption | exact Heap.set_at (by omega) | exact Heap.new_at (by ((repeat first | apply Heap.nx_set | apply Heap.nx_new | apply Heap.nx_kill | apply Heap.nx_room); first | assumption | rfl)) (by omega))) (by rfl) (by rfl)) ?_)))
  exact k _ (by (repeat' first | exact Exd.refl _ | assumption | refine Exd.new ?_ | refine Exd.set ?_ (by omega) | refine Exd.kill ?_ (by omega)))

theorem take_add_count (l : List Bool) (t : Bool) (i : Nat) (hi : i < l.length) : (l.take (i + 1)).count t = (l.take i).count t + if l[i] = t then 1 else 0 := by
  rw [List.take_add_one, List.count_append, List.getElem?_eq_getElem hi]
  simp only [Option.toList_some, List.count_singleton]
  congr 1
  by_cases e : l[i] = t <;> simp [e]

theorem free_cal {p b : Nat} {f s : Int} {l : List Bool} {h : Heap} {Q : CVal → Heap → Prop} (hs : IsSegs h p b f s l) (hl : (l.length : Int) ≤ 8192)
    (k : ∀ h', IsSegs h' p b f s l → Exd h h' → Q (.int .i64 (l.count false)) h') : Cal tt 11 [.ptr p 0] h Q := by
  have hs0 := hs
  obtain ⟨hp, hb, ne, lp, lb⟩ := hs
  refine Cal.run rfl rfl rfl rfl ?_
  (repeat' ((conv => whnf); (first
      | refine LTN.yes (by omega) ?_
      | refine LTN.no (by omega) ?_
      | refine LTN.mk (fun _ => ?_) (fun _ => ?_)
      | refine EQN.yes (by omega) ?_
      | refine EQN.no (by omega) ?_
      | refine EQN.mk (fun _ => ?_) (fun _ => ?_)
      | refine EQSN.yes (by first | rfl | assumption) ?_
      | refine EQSN.no (by first | decide | assumption) ?_
      | refine EQSN.mk (fun _ => ?_) (fun _ => ?_)
      | refine ARN.in (by omega) ?_
      | refine ARN.fits (by first | (apply u8_in; omega) | (apply i32_in; omega) | (apply u32_in; omega)) ?_
      | refine QUON.pos (by omega) ?_
      | refine REMN.pos (by omega) ?_
      | refine REMN.mk (by omega) ?_
      | refine GETN.mk (by ((repeat first | refine Heap.room_get ?_ | refine Heap.set_skip (by omega) ?_ | refine Heap.new_skip (by ((repeat first | apply Heap.nx_set | apply Heap.nx_new | apply Heap.nx_kill | apply Heap.nx_room); first | assumption | rfl)) (by omega) ?_ | refine Exd.skip (by assumption) (by omega) ?_); first | assumption | exact Heap.set_at (by omega) | exact Heap.new_at (by ((repeat first | apply Heap.nx_set | apply Heap.nx_new | apply Heap.nx_kill | apply Heap.nx_room); first | assumption | rfl)) (by omega))) ?_
      | refine GETM.mk (by ((repeat first | refine Heap.room_get ?_ | refine Heap.set_skip (by omega) ?_ | refine Heap.new_skip (by ((repeat first | apply Heap.nx_set | apply Heap.nx_new | apply Heap.nx_kill | apply Heap.nx_room); first | assumption | rfl)) (by omega) ?_ | refine Exd.skip (by assumption) (by omega) ?_); first | assumption | exact Heap.set_at (by omega) | exact Heap.new_at (by ((repeat first | apply Heap.nx_set | apply Heap.nx_new | apply Heap.nx_kill | apply Heap.nx_room); first | assumption | rfl)) (by omega))) ?_
      | refine NEWN.mk (by ((repeat first | apply Heap.nx_set | apply Heap.nx_new | apply Heap.nx_kill | apply Heap.nx_room); first | assumption | rfl)) ?_
      | refine SETN.mk (by ((repeat first | refine Heap.room_get ?_ | refine Heap.set_skip (by omega) ?_ | refine Heap.new_skip (by ((repeat first | apply Heap.nx_set | apply Heap.nx_new | apply Heap.nx_kill | apply Heap.nx_room); first | assumption | rfl)) (by omega) ?_ | refine Exd.skip (by assumption) (by omega) ?_); first | assumption | exact Heap.set_at (by omega) | exact Heap.new_at (by ((repeat first | apply Heap.nx_set | apply Heap.nx_new | apply Heap.nx_kill | apply Heap.nx_room); first | assumption | rfl)) (by omega))) (by rfl) (by (first | decide | (simp; done) | (simp; omega))) ?_
      | refine DOESN.mk (by first | rfl | omega | (simp; done) | (simp; omega)) ?_
      | refine BC.yes (by assumption) ?_
      | refine BC.no (by assumption) ?_
      | refine BC.split (fun _ => ?_) (fun _ => ?_)
      | refine SOMEN.mk (by rfl) ?_
      | refine scopeC ?_
      | refine drawC0 (hist := fun _ => Heap.empty 0) rfl ?_
      | refine drawC (hist := fun _ => Heap.empty 0) rfl ?_
      | refine NUMN.mk (by ((repeat first | apply Heap.nx_set | apply Heap.nx_new | apply Heap.nx_kill | apply Heap.nx_room); first | assumption | rfl)) ?_
      | refine LOOKN.mk (by first | exact QV.load rfl (by ((repeat first | refine Heap.room_get ?_ | refine Heap.set_skip (by omega) ?_ | refine Heap.new_skip (by ((repeat first | apply Heap.nx_set | apply Heap.nx_new | apply Heap.nx_kill | apply Heap.nx_room); first | assumption | rfl)) (by omega) ?_ | refine Exd.skip (by assumption) (by omega) ?_); first | assumption | exact Heap.set_at (by omega) | exact Heap.new_at (by ((repeat first | apply Heap.nx_set | apply Heap.nx_new | apply Heap.nx_kill | apply Heap.nx_room); first | assumption | rfl)) (by omega))) (by rfl) | exact QV.loadA rfl (by ((repeat first | refine Heap.room_get ?_ | refine Heap.set_skip (by omega) ?_ | refine Heap.new_skip (by ((repeat first | apply Heap.nx_set | apply Heap.nx_new | apply Heap.nx_kill | apply Heap.nx_room); first | assumption | rfl)) (by omega) ?_ | refine Exd.skip (by assumption) (by omega) ?_); first | assumption | exact Heap.set_at (by omega) | exact Heap.new_at (by ((repeat first | apply Heap.nx_set | apply Heap.nx_new | apply Heap.nx_kill | apply Heap.nx_room); first | assumption | rfl)) (by omega))) (by rfl) (by rfl)) ?_)))
  refine CALLN.of (those_cal (b := b) (f := f) (s := s) (l := l)
    (fun i h' => Exd h h' ∧ h'.next = h.next + 1 ∧ h'.get h.next = some (.cells [.int .i64 ((l.take i).count false)] true none))
    (fun h' => Exd h h' ∧ h'.next = h.next + 1 ∧ h'.get h.next = some (.cells [.int .i64 (l.count false)] true none))
    (by omega) ?_ ⟨(by (repeat' first | exact Exd.refl _ | assumption | refine Exd.new ?_ | refine Exd.set ?_ (by omega) | refine Exd.kill ?_ (by omega))), (by ((repeat first | apply Heap.nx_set | apply Heap.nx_new | apply Heap.nx_kill | apply Heap.nx_room); first | assumption | rfl)), (by ((repeat first | refine Heap.room_get ?_ | refine Heap.set_skip (by omega) ?_ | refine Heap.new_skip (by ((repeat first | apply Heap.nx_set | apply Heap.nx_new | apply Heap.nx_kill | apply Heap.nx_room); first | assumption | rfl)) (by omega) ?_ | refine Exd.skip (by assumption) (by omega) ?_); first | assumption | exact Heap.set_at (by omega) | exact Heap.new_at (by ((repeat first | apply Heap.nx_set | apply Heap.nx_new | apply Heap.nx_kill | apply Heap.nx_room); first | assumption | rfl)) (by omega)))⟩ ⟨by ((repeat first | refine Heap.room_get ?_ | refine Heap.set_skip (by omega) ?_ | refine Heap.new_skip (by ((repeat first | apply Heap.nx_set | apply Heap.nx_new | apply Heap.nx_kill | apply Heap.nx_room); first | assumption | rfl)) (by omega) ?_ | refine Exd.skip (by assumption) (by omega) ?_); first | assumption | exact Heap.set_at (by omega) | exact Heap.new_at (by ((repeat first | apply Heap.nx_set | apply Heap.nx_new | apply Heap.nx_kill | apply Heap.nx_room); first | assumption | rfl)) (by omega)), by ((repeat first | refine Heap.room_get ?_ | refine Heap.set_skip (by omega) ?_ | refine Heap.new_skip (by ((repeat first | apply Heap.nx_set | apply Heap.nx_new | apply Heap.nx_kill | apply Heap.nx_room); first | assumption | rfl)) (by omega) ?_ | refine Exd.skip (by assumption) (by omega) ?_); first | assumption | exact Heap.set_at (by omega) | exact Heap.new_at (by ((repeat first | apply Heap.nx_set | apply Heap.nx_new | apply Heap.nx_kill | apply Heap.nx_room); first | assumption | rfl)) (by omega)), ne, (by (first | omega | (simp only [Heap.next_new]; omega) | (simp only [Heap.next_set]; omega) | (simp only [Heap.next_set, Heap.next_new]; omega) | (simp only [Heap.next_set, Heap.next_new, Heap.next_kill]; omega))), (by (first | omega | (simp only [Heap.next_new]; omega) | (simp only [Heap.next_set]; omega) | (simp only [Heap.next_set, Heap.next_new]; omega) | (simp only [Heap.next_set, Heap.next_new, Heap.next_kill]; omega)))⟩ ?_ ?_ ?_ ?_)
  · rintro i h' ⟨e, _⟩; exact Exd.skip e lb hb
  · rintro i h' hi hne ⟨e, en, g⟩
    rw [take_add_count l false i hi, if_neg hne]
    exact ⟨e, en, g⟩
  · rintro i h' hi he ⟨e, en, g⟩
    have hc : (l.take i).count false ≤ i := by
      have := List.count_le_length (a := false) (l := l.take i)
      rw [List.length_take] at this; omega
    refine Cal.run rfl rfl rfl rfl ?_
    (repeat' ((conv => whnf); (first
      | refine LTN.yes (by omega) ?_
      | refine LTN.no (by omega) ?_
      | refine LTN.mk (fun _ => ?_) (fun _ => ?_)
      | refine EQN.yes (by omega) ?_
      | refine EQN.no (by omega) ?_
      | refine EQN.mk (fun _ => ?_) (fun _ => ?_)
      | refine EQSN.yes (by first | rfl | assumption) ?_
      | refine EQSN.no (by first | decide | assumption) ?_
      | refine EQSN.mk (fun _ => ?_) (fun _ => ?_)
      | refine ARN.in (by omega) ?_
      | refine ARN.fits (by first | (apply u8_in; omega) | (apply i32_in; omega) | (apply u32_in; omega)) ?_
      | refine QUON.pos (by omega) ?_
      | refine REMN.pos (by omega) ?_
      | refine REMN.mk (by omega) ?_
      | refine GETN.mk (by ((repeat first | refine Heap.room_get ?_ | refine Heap.set_skip (by omega) ?_ | refine Heap.new_skip (by ((repeat first | apply Heap.nx_set | apply Heap.nx_new | apply Heap.nx_kill | apply Heap.nx_room); first | assumption | rfl)) (by omega) ?_ | refine Exd.skip (by assumption) (by omega) ?_); first | assumption | exact Heap.set_at (by omega) | exact Heap.new_at (by ((repeat first | apply Heap.nx_set | apply Heap.nx_new | apply Heap.nx_kill | apply Heap.nx_room); first | assumption | rfl)) (by omega))) ?_
      | refine GETM.mk (by ((repeat first | refine Heap.room_get ?_ | refine Heap.set_skip (by omega) ?_ | refine Heap.new_skip (by ((repeat first | apply Heap.nx_set | apply Heap.nx_new | apply Heap.nx_kill | apply Heap.nx_room); first | assumption | rfl)) (by omega) ?_ | refine Exd.skip (by assumption) (by omega) ?_); first | assumption | exact Heap.set_at (by omega) | exact Heap.new_at (by ((repeat first | apply Heap.nx_set | apply Heap.nx_new | apply Heap.nx_kill | apply Heap.nx_room); first | assumption | rfl)) (by omega))) ?_
      | refine NEWN.mk (by ((repeat first | apply Heap.nx_set | apply Heap.nx_new | apply Heap.nx_kill | apply Heap.nx_room); first | assumption | rfl)) ?_
      | refine SETN.mk (by ((repeat first | refine Heap.room_get ?_ | refine Heap.set_skip (by omega) ?_ | refine Heap.new_skip (by ((repeat first | apply Heap.nx_set | apply Heap.nx_new | apply Heap.nx_kill | apply Heap.nx_room); first | assumption | rfl)) (by omega) ?_ | refine Exd.skip (by assumption) (by omega) ?_); first | assumption | exact Heap.set_at (by omega) | exact Heap.new_at (by ((repeat first | apply Heap.nx_set | apply Heap.nx_new | apply Heap.nx_kill | apply Heap.nx_room); first | assumption | rfl)) (by omega))) (by rfl) (by (first | decide | (simp; done) | (simp; omega))) ?_
      | refine DOESN.mk (by first | rfl | omega | (simp; done) | (simp; omega)) ?_
      | refine BC.yes (by assumption) ?_
      | refine BC.no (by assumption) ?_
      | refine BC.split (fun _ => ?_) (fun _ => ?_)
      | refine SOMEN.mk (by rfl) ?_
      | refine scopeC ?_
      | refine drawC0 (hist := fun _ => Heap.empty 0) rfl ?_
      | refine drawC (hist := fun _ => Heap.empty 0) rfl ?_
      | refine NUMN.mk (by ((repeat first | apply Heap.nx_set | apply Heap.nx_new | apply Heap.nx_kill | apply Heap.nx_room); first | assumption | rfl)) ?_
      | refine LOOKN.mk (by first | exact QV.load rfl (by ((repeat first | refine Heap.room_get ?_ | refine Heap.set_skip (by omega) ?_ | refine Heap.new_skip (by ((repeat first | apply Heap.nx_set | apply Heap.nx_new | apply Heap.nx_kill | apply Heap.nx_room); first | assumption | rfl)) (by omega) ?_ | refine Exd.skip (by assumption) (by omega) ?_); first | assumption | exact Heap.set_at (by omega) | exact Heap.new_at (by ((repeat first | apply Heap.nx_set | apply Heap.nx_new | apply Heap.nx_kill | apply Heap.nx_room); first | assumption | rfl)) (by omega))) (by rfl) | exact QV.loadA rfl (by ((repeat first | refine Heap.room_get ?_ | refine Heap.set_skip (by omega) ?_ | refine Heap.new_skip (by ((repeat first | apply Heap.nx_set | apply Heap.nx_new | apply Heap.nx_kill | apply Heap.nx_room); first | assumption | rfl)) (by omega) ?_ | refine Exd.skip (by assumption) (by omega) ?_); first | assumption | exact Heap.set_at (by omega) | exact Heap.new_at (by ((repeat first | apply Heap.nx_set | apply Heap.nx_new | apply Heap.nx_kill | apply Heap.nx_room); first | assumption | rfl)) (by omega))) (by rfl) (by rfl)) ?_)))
    refine .inl ⟨rfl, Exd.set e (by omega), (by ((repeat first | apply Heap.nx_set | apply Heap.nx_new | apply Heap.nx_kill | apply Heap.nx_room); first | assumption | rfl)), ?_⟩
    rw [take_add_count l false i hi, if_pos he]
    ((repeat first | refine Heap.room_get ?_ | refine Heap.set_skip (by omega) ?_ | refine Heap.new_skip (by ((repeat first | apply Heap.nx_set | apply Heap.nx_new | apply Heap.nx_kill | apply Heap.nx_room); first | assumption | rfl)) (by omega) ?_ | refine Exd.skip (by assumption) (by omega) ?_); first | assumption | exact Heap.set_at (by omega) | exact Heap.new_at (by ((repeat first | apply Heap.nx_set | apply Heap.nx_new | apply Heap.nx_kill | apply Heap.nx_room); first | assumption | rfl)) (by omega))
  · rintro h' ⟨e, en, g⟩
    rw [List.take_length] at g
    exact ⟨e, en, g⟩
  · rintro h' ⟨e, en, g⟩
    have hp' := Exd.skip e lp hp
    have hb' := Exd.skip e lb hb
    (repeat' ((conv => whnf); (first
      | refine LTN.yes (by omega) ?_
      | refine LTN.no (by omega) ?_
      | refine LTN.mk (fun _ => ?_) (fun _ => ?_)
      | refine EQN.yes (by omega) ?_
      | refine EQN.no (by omega) ?_
      | refine EQN.mk (fun _ => ?_) (fun _ => ?_)
      | refine EQSN.yes (by first | rfl | assumption) ?_
      | refine EQSN.no (by first | decide | assumption) ?_
      | refine EQSN.mk (fun _ => ?_) (fun _ => ?_)
      | refine ARN.in (by omega) ?_
      | refine ARN.fits (by first | (apply u8_in; omega) | (apply i32_in; omega) | (apply u32_in; omega)) ?_
      | refine QUON.pos (by omega) ?_
      | refine REMN.pos (by omega) ?_
      | refine REMN.mk (by omega) ?_
      | refine GETN.mk (by ((repeat first | refine Heap.room_get ?_ | refine Heap.set_skip (by omega) ?_ | refine Heap.new_skip (by ((repeat first | apply Heap.nx_set | apply Heap.nx_new | apply Heap.nx_kill | apply Heap.nx_room); first | assumption | rfl)) (by omega) ?_ | refine Exd.skip (by assumption) (by omega) ?_); first | assumption | exact Heap.set_at (by omega) | exact Heap.new_at (by ((repeat first | apply Heap.nx_set | apply Heap.nx_new | apply Heap.nx_kill | apply Heap.nx_room); first | assumption | rfl)) (by omega))) ?_
      | refine GETM.mk (by ((repeat first | refine Heap.room_get ?_ | refine Heap.set_skip (by omega) ?_ | refine Heap.new_skip (by ((repeat first | apply Heap.nx_set | apply Heap.nx_new | apply Heap.nx_kill | apply Heap.nx_room); first | assumption | rfl)) (by omega) ?_ | refine Exd.skip (by assumption) (by omega) ?_); first | assumption | exact Heap.set_at (by omega) | exact Heap.new_at (by ((repeat first | apply Heap.nx_set | apply Heap.nx_new | apply Heap.nx_kill | apply Heap.nx_room); first | assumption | rfl)) (by omega))) ?_
      | refine NEWN.mk (by ((repeat first | apply Heap.nx_set | apply Heap.nx_new | apply Heap.nx_kill | apply Heap.nx_room); first | assumption | rfl)) ?_
      | refine SETN.mk (by ((repeat first | refine Heap.room_get ?_ | refine Heap.set_skip (by omega) ?_ | refine Heap.new_skip (by ((repeat first | apply Heap.nx_set | apply Heap.nx_new | apply Heap.nx_kill | apply Heap.nx_room); first | assumption | rfl)) (by omega) ?_ | refine Exd.skip (by assumption) (by omega) ?_); first | assumption | exact Heap.set_at (by omega) | exact Heap.new_at (by ((repeat first | apply Heap.nx_set | apply Heap.nx_new | apply Heap.nx_kill | apply Heap.nx_room); first | assumption | rfl)) (by omega))) (by rfl) (by (first | decide | (simp; done) | (simp; omega))) ?_
      | refine DOESN.mk (by first | rfl | omega | (simp; done) | (simp; omega)) ?_
      | refine BC.yes (by assumption) ?_
      | refine BC.no (by assumption) ?_
      | refine BC.split (fun _ => ?_) (fun _ => ?_)
      | refine SOMEN.mk (by rfl) ?_
      | refine scopeC ?_
      | refine drawC0 (hist := fun _ => Heap.empty 0) rfl ?_
      | refine drawC (hist := fun _ => Heap.empty 0) rfl ?_
      | refine NUMN.mk (by ((repeat first | apply Heap.nx_set | apply Heap.nx_new | apply Heap.nx_kill | apply Heap.nx_room); first | assumption | rfl)) ?_
      | refine LOOKN.mk (by first | exact QV.load rfl (by ((repeat first | refine Heap.room_get ?_ | refine Heap.set_skip (by omega) ?_ | refine Heap.new_skip (by ((repeat first | apply Heap.nx_set | apply Heap.nx_new | apply Heap.nx_kill | apply Heap.nx_room); first | assumption | rfl)) (by omega) ?_ | refine Exd.skip (by assumption) (by omega) ?_); first | assumption | exact Heap.set_at (by omega) | exact Heap.new_at (by ((repeat first | apply Heap.nx_set | apply Heap.nx_new | apply Heap.nx_kill | apply Heap.nx_room); first | assumption | rfl)) (by omega))) (by rfl) | exact QV.loadA rfl (by ((repeat first | refine Heap.room_get ?_ | refine Heap.set_skip (by omega) ?_ | refine Heap.new_skip (by ((repeat first | apply Heap.nx_set | apply Heap.nx_new | apply Heap.nx_kill | apply Heap.nx_room); first | assumption | rfl)) (by omega) ?_ | refine Exd.skip (by assumption) (by omega) ?_); first | assumption | exact Heap.set_at (by omega) | exact Heap.new_at (by ((repeat first | apply Heap.nx_set | apply Heap.nx_new | apply Heap.nx_kill | apply Heap.nx_room); first | assumption | rfl)) (by omega))) (by rfl) (by rfl)) ?_)))
    exact k _ ⟨by ((repeat first | refine Heap.room_get ?_ | refine Heap.set_skip (by omega) ?_ | refine Heap.new_skip (by ((repeat first | apply Heap.nx_set | apply Heap.nx_new | apply Heap.nx_kill | apply Heap.nx_room); first | assumption | rfl)) (by omega) ?_ | refine Exd.skip (by assumption) (by omega) ?_); first | assumption | exact Heap.set_at (by omega) | exact Heap.new_at (by ((repeat first | apply Heap.nx_set | apply Heap.nx_new | apply Heap.nx_kill | apply Heap.nx_room); first | assumption | rfl)) (by omega)), by ((repeat first | refine Heap.room_get ?_ | refine Heap.set_skip (by omega) ?_ | refine Heap.new_skip (by ((repeat first | apply Heap.nx_set | apply Heap.nx_new | apply Heap.nx_kill | apply Heap.nx_room); first | assumption | rfl)) (by omega) ?_ | refine Exd.skip (by assumption) (by omega) ?_); first | assumption | exact Heap.set_at (by omega) | exact Heap.new_at (by ((repeat first | apply Heap.nx_set | apply Heap.nx_new | apply Heap.nx_kill | apply Heap.nx_room); first | assumption | rfl)) (by omega)), ne, (by (first | omega | (simp only [Heap.next_new]; omega) | (simp only [Heap.next_set]; omega) | (simp only [Heap.next_set, Heap.next_new]; omega) | (simp only [Heap.next_set, Heap.next_new, Heap.next_kill]; omega))), (by (first | omega | (simp only [Heap.next_new]; omega) | (simp only [Heap.next_set]; omega) | (simp only [Heap.next_set, Heap.next_new]; omega) | (simp only [Heap.next_set, Heap.next_new, Heap.next_kill]; omega)))⟩ (by (repeat' first | exact Exd.refl _ | assumption | refine Exd.new ?_ | refine Exd.set ?_ (by omega) | refine Exd.kill ?_ (by omega)))
end Go.Proofs.Ythcmiceheohpjaa.Cm
