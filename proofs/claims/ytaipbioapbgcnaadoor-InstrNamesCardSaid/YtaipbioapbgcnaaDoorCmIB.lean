/-
  Instructions: what is asked of the tables; the law of it.
-/
import Derived.Test.YtaipbioapbgcnaaDoorCmIA
namespace Go.Proofs.YtaipbioapbgcnaaDoor.Cm
open Go.RowKit Go.IntWalk
attribute [local irreducible] Heap.set Heap.new Heap.kill Heap.get Heap.room Cal WP

section
variable {op : Int} {h : Heap} {Q : CVal → Heap → Prop}

theorem is_cal (q : Q (.bool (decide (isOp op))) h) : Cal tt 7 [.int .i64 op] h Q := by
  have q1 : ∀ b, decide (isOp op) = b → Q (.bool b) h := fun b e => e ▸ q
  refine Cal.run rfl rfl rfl rfl ?_
  (repeat' ((conv => whnf); (first
      | (refine LTN.yes (by omega) ?_)
      | (refine LTN.no (by omega) ?_)
      | (refine LTN.mk (fun _ => ?_) (fun _ => ?_))
      | (refine EQN.yes (by omega) ?_)
      | (refine EQN.no (by omega) ?_)
      | (refine EQN.mk (fun _ => ?_) (fun _ => ?_))
      | (refine EQSN.yes (by first | rfl | assumption) ?_)
      | (refine EQSN.no (by first | decide | assumption) ?_)
      | (refine EQSN.mk (fun _ => ?_) (fun _ => ?_))
      | (refine ARN.in (by omega) ?_)
      | (refine ARN.fits (by first | (apply u8_in; omega) | (apply i32_in; omega) | (apply u32_in; omega)) ?_)
      | (refine QUON.pos (by omega) ?_)
      | (refine REMN.pos (by omega) ?_)
      | (refine REMN.mk (by omega) ?_)
      | (show GETN _ _ _; refine GETN.mk (by ((repeat first | refine Heap.room_get ?_ | refine Heap.set_skip (by omega) ?_ | refine Heap.new_skip (by ((repeat first | apply Heap.nx_set | apply Heap.nx_new | apply Heap.nx_kill | apply Heap.nx_room); first | assumption | rfl)) (by omega) ?_ | refine Exd.skip (by assumption) (by omega) ?_); first | assumption | exact Heap.set_at (by omega) | exact Heap.new_at (by ((repeat first | apply Heap.nx_set | apply Heap.nx_new | apply Heap.nx_kill | apply Heap.nx_room); first | assumption | rfl)) (by omega))) ?_)
      | (show GETM _ _ _; refine GETM.mk (by ((repeat first | refine Heap.room_get ?_ | refine Heap.set_skip (by omega) ?_ | refine Heap.new_skip (by ((repeat first | apply Heap.nx_set | apply Heap.nx_new | apply Heap.nx_kill | apply Heap.nx_room); first | assumption | rfl)) (by omega) ?_ | refine Exd.skip (by assumption) (by omega) ?_); first | assumption | exact Heap.set_at (by omega) | exact Heap.new_at (by ((repeat first | apply Heap.nx_set | apply Heap.nx_new | apply Heap.nx_kill | apply Heap.nx_room); first | assumption | rfl)) (by omega))) ?_)
      | (show NEWN _ _; refine NEWN.mk (by ((repeat first | apply Heap.nx_set | apply Heap.nx_new | apply Heap.nx_kill | apply Heap.nx_room); first | assumption | rfl)) ?_)
      | (show SETN _ _ _ _ _ _; refine SETN.mk (by ((repeat first | refine Heap.room_get ?_ | refine Heap.set_skip (by omega) ?_ | refine Heap.new_skip (by ((repeat first | apply Heap.nx_set | apply Heap.nx_new | apply Heap.nx_kill | apply Heap.nx_room); first | assumption | rfl)) (by omega) ?_ | refine Exd.skip (by assumption) (by omega) ?_); first | assumption | exact Heap.set_at (by omega) | exact Heap.new_at (by ((repeat first | apply Heap.nx_set | apply Heap.nx_new | apply Heap.nx_kill | apply Heap.nx_room); first | assumption | rfl)) (by omega))) (by rfl) (by (first | decide | (simp; done) | (simp; omega))) ?_)
      | (show DOESN _ _; refine DOESN.mk (by first | rfl | omega | (simp; done) | (simp; omega)) ?_)
      | (refine BC.yes (by assumption) ?_)
      | (refine BC.no (by assumption) ?_)
      | (refine BC.split (fun _ => ?_) (fun _ => ?_))
      | (refine SOMEN.mk (by rfl) ?_)
      | (refine scopeC ?_)
      | (refine drawC0 (hist := fun _ => Heap.empty 0) rfl ?_)
      | (refine drawC (hist := fun _ => Heap.empty 0) rfl ?_)
      | (show NUMN _ _; refine NUMN.mk (by ((repeat first | apply Heap.nx_set | apply Heap.nx_new | apply Heap.nx_kill | apply Heap.nx_room); first | assumption | rfl)) ?_)
      | (show LOOKN _ _ _ _ _ _; refine LOOKN.mk (by first | exact QV.load rfl (by ((repeat first | refine Heap.room_get ?_ | refine Heap.set_skip (by omega) ?_ | refine Heap.new_skip (by ((repeat first | apply Heap.nx_set | apply Heap.nx_new | apply Heap.nx_kill | apply Heap.nx_room); first | assumption | rfl)) (by omega) ?_ | refine Exd.skip (by assumption) (by omega) ?_); first | assumption | exact Heap.set_at (by omega) | exact Heap.new_at (by ((repeat first | apply Heap.nx_set | apply Heap.nx_new | apply Heap.nx_kill | apply Heap.nx_room); first | assumption | rfl)) (by omega))) (by rfl) | exact QV.loadA rfl (by ((repeat first | refine Heap.room_get ?_ | refine Heap.set_skip (by omega) ?_ | refine Heap.new_skip (by ((repeat first | apply Heap.nx_set | apply Heap.nx_new | apply Heap.nx_kill | apply Heap.nx_room); first | assumption | rfl)) (by omega) ?_ | refine Exd.skip (by assumption) (by omega) ?_); first | assumption | exact Heap.set_at (by omega) | exact Heap.new_at (by ((repeat first | apply Heap.nx_set | apply Heap.nx_new | apply Heap.nx_kill | apply Heap.nx_room); first | assumption | rfl)) (by omega))) (by rfl) (by rfl)) ?_)
      | fail)))
  all_goals first
    | exact q1 true (by rw [decide_eq_true_eq]; unfold isOp; omega)
    | exact q1 false (by rw [decide_eq_false_iff_not]; unfold isOp; omega)

theorem at_int {l : List Int} {k : Nat} (hk : k < l.length) : (l.map (CVal.int .i64))[0 + ((k : Nat) : Int).toNat * 1]? = some (.int .i64 (l.getD k 0)) := by
  rw [Int.toNat_natCast, Nat.zero_add, Nat.mul_one, List.getElem?_map, List.getElem?_eq_getElem hk]
  simp [List.getD, hk]
theorem at_str {l : List (List UInt8)} {k : Nat} (hk : k < l.length) : (l.map CVal.str)[0 + ((k : Nat) : Int).toNat * 1]? = some (.str (l.getD k [])) := by
  rw [Int.toNat_natCast, Nat.zero_add, Nat.mul_one, List.getElem?_map, List.getElem?_eq_getElem hk]
  simp [List.getD, hk]
theorem tab_nat {l : List Int} {k : Nat} (h1 : 1 ≤ k) (h2 : k < 39) : tabOf l k = l.getD k 0 := by rw [tabOf, if_pos ⟨by omega, by omega⟩, Int.toNat_natCast]

theorem operands_cal (t : Tabs h) (q : Q (.int .i64 (tabOf opOperands op)) h) : Cal tt 9 [.int .i64 op] h Q := by
  by_cases hi : isOp op
  · obtain ⟨k, rfl, h1, h2⟩ := isOp_nat hi
    rw [tab_nat h1 h2] at q
    have g := t.a
    refine Cal.run rfl rfl rfl rfl ?_
    (repeat' ((conv => whnf); (first
      | (refine CALLN.of (is_cal ?_))
      | (refine BC.yes (decide_eq_true hi) ?_)
      | (refine AT.of (at_int (by show k < 39; exact h2)) ?_)
      | (refine LTN.yes (by omega) ?_)
      | (refine LTN.no (by omega) ?_)
      | (refine LTN.mk (fun _ => ?_) (fun _ => ?_))
      | (refine EQN.yes (by omega) ?_)
      | (refine EQN.no (by omega) ?_)
      | (refine EQN.mk (fun _ => ?_) (fun _ => ?_))
      | (refine EQSN.yes (by first | rfl | assumption) ?_)
      | (refine EQSN.no (by first | decide | assumption) ?_)
      | (refine EQSN.mk (fun _ => ?_) (fun _ => ?_))
      | (refine ARN.in (by omega) ?_)
      | (refine ARN.fits (by first | (apply u8_in; omega) | (apply i32_in; omega) | (apply u32_in; omega)) ?_)
      | (refine QUON.pos (by omega) ?_)
      | (refine REMN.pos (by omega) ?_)
      | (refine REMN.mk (by omega) ?_)
      | (show GETN _ _ _; refine GETN.mk (by ((repeat first | refine Heap.room_get ?_ | refine Heap.set_skip (by omega) ?_ | refine Heap.new_skip (by ((repeat first | apply Heap.nx_set | apply Heap.nx_new | apply Heap.nx_kill | apply Heap.nx_room); first | assumption | rfl)) (by omega) ?_ | refine Exd.skip (by assumption) (by omega) ?_); first | assumption | exact Heap.set_at (by omega) | exact Heap.new_at (by ((repeat first | apply Heap.nx_set | apply Heap.nx_new | apply Heap.nx_kill | apply Heap.nx_room); first | assumption | rfl)) (by omega))) ?_)
      | (show GETM _ _ _; refine GETM.mk (by ((repeat first | refine Heap.room_get ?_ | refine Heap.set_skip (by omega) ?_ | refine Heap.new_skip (by ((repeat first | apply Heap.nx_set | apply Heap.nx_new | apply Heap.nx_kill | apply Heap.nx_room); first | assumption | rfl)) (by omega) ?_ | refine Exd.skip (by assumption) (by omega) ?_); first | assumption | exact Heap.set_at (by omega) | exact Heap.new_at (by ((repeat first | apply Heap.nx_set | apply Heap.nx_new | apply Heap.nx_kill | apply Heap.nx_room); first | assumption | rfl)) (by omega))) ?_)
      | (show NEWN _ _; refine NEWN.mk (by ((repeat first | apply Heap.nx_set | apply Heap.nx_new | apply Heap.nx_kill | apply Heap.nx_room); first | assumption | rfl)) ?_)
      | (show SETN _ _ _ _ _ _; refine SETN.mk (by ((repeat first | refine Heap.room_get ?_ | refine Heap.set_skip (by omega) ?_ | refine Heap.new_skip (by ((repeat first | apply Heap.nx_set | apply Heap.nx_new | apply Heap.nx_kill | apply Heap.nx_room); first | assumption | rfl)) (by omega) ?_ | refine Exd.skip (by assumption) (by omega) ?_); first | assumption | exact Heap.set_at (by omega) | exact Heap.new_at (by ((repeat first | apply Heap.nx_set | apply Heap.nx_new | apply Heap.nx_kill | apply Heap.nx_room); first | assumption | rfl)) (by omega))) (by rfl) (by (first | decide | (simp; done) | (simp; omega))) ?_)
      | (show DOESN _ _; refine DOESN.mk (by first | rfl | omega | (simp; done) | (simp; omega)) ?_)
      | (refine BC.yes (by assumption) ?_)
      | (refine BC.no (by assumption) ?_)
      | (refine BC.split (fun _ => ?_) (fun _ => ?_))
      | (refine SOMEN.mk (by rfl) ?_)
      | (refine scopeC ?_)
      | (refine drawC0 (hist := fun _ => Heap.empty 0) rfl ?_)
      | (refine drawC (hist := fun _ => Heap.empty 0) rfl ?_)
      | (show NUMN _ _; refine NUMN.mk (by ((repeat first | apply Heap.nx_set | apply Heap.nx_new | apply Heap.nx_kill | apply Heap.nx_room); first | assumption | rfl)) ?_)
      | (show LOOKN _ _ _ _ _ _; refine LOOKN.mk (by first | exact QV.load rfl (by ((repeat first | refine Heap.room_get ?_ | refine Heap.set_skip (by omega) ?_ | refine Heap.new_skip (by ((repeat first | apply Heap.nx_set | apply Heap.nx_new | apply Heap.nx_kill | apply Heap.nx_room); first | assumption | rfl)) (by omega) ?_ | refine Exd.skip (by assumption) (by omega) ?_); first | assumption | exact Heap.set_at (by omega) | exact Heap.new_at (by ((repeat first | apply Heap.nx_set | apply Heap.nx_new | apply Heap.nx_kill | apply Heap.nx_room); first | assumption | rfl)) (by omega))) (by rfl) | exact QV.loadA rfl (by ((repeat first | refine Heap.room_get ?_ | refine Heap.set_skip (by omega) ?_ | refine Heap.new_skip (by ((repeat first | apply Heap.nx_set | apply Heap.nx_new | apply Heap.nx_kill | apply Heap.nx_room); first | assumption | rfl)) (by omega) ?_ | refine Exd.skip (by assumption) (by omega) ?_); first | assumption | exact Heap.set_at (by omega) | exact Heap.new_at (by ((repeat first | apply Heap.nx_set | apply Heap.nx_new | apply Heap.nx_kill | apply Heap.nx_room); first | assumption | rfl)) (by omega))) (by rfl) (by rfl)) ?_)
      | fail)))
    exact q
  · rw [tabOf, if_neg hi] at q
    refine Cal.run rfl rfl rfl rfl ?_
    (repeat' ((conv => whnf); (first
      | (refine CALLN.of (is_cal ?_))
      | (refine BC.no (decide_eq_false hi) ?_)
      | (refine LTN.yes (by omega) ?_)
      | (refine LTN.no (by omega) ?_)
      | (refine LTN.mk (fun _ => ?_) (fun _ => ?_))
      | (refine EQN.yes (by omega) ?_)
      | (refine EQN.no (by omega) ?_)
      | (refine EQN.mk (fun _ => ?_) (fun _ => ?_))
      | (refine EQSN.yes (by first | rfl | assumption) ?_)
      | (refine EQSN.no (by first | decide | assumption) ?_)
      | (refine EQSN.mk (fun _ => ?_) (fun _ => ?_))
      | (refine ARN.in (by omega) ?_)
      | (refine ARN.fits (by first | (apply u8_in; omega) | (apply i32_in; omega) | (apply u32_in; omega)) ?_)
      | (refine QUON.pos (by omega) ?_)
      | (refine REMN.pos (by omega) ?_)
      | (refine REMN.mk (by omega) ?_)
      | (show GETN _ _ _; refine GETN.mk (by ((repeat first | refine Heap.room_get ?_ | refine Heap.set_skip (by omega) ?_ | refine Heap.new_skip (by ((repeat first | apply Heap.nx_set | apply Heap.nx_new | apply Heap.nx_kill | apply Heap.nx_room); first | assumption | rfl)) (by omega) ?_ | refine Exd.skip (by assumption) (by omega) ?_); first | assumption | exact Heap.set_at (by omega) | exact Heap.new_at (by ((repeat first | apply Heap.nx_set | apply Heap.nx_new | apply Heap.nx_kill | apply Heap.nx_room); first | assumption | rfl)) (by omega))) ?_)
      | (show GETM _ _ _; refine GETM.mk (by ((repeat first | refine Heap.room_get ?_ | refine Heap.set_skip (by omega) ?_ | refine Heap.new_skip (by ((repeat first | apply Heap.nx_set | apply Heap.nx_new | apply Heap.nx_kill | apply Heap.nx_room); first | assumption | rfl)) (by omega) ?_ | refine Exd.skip (by assumption) (by omega) ?_); first | assumption | exact Heap.set_at (by omega) | exact Heap.new_at (by ((repeat first | apply Heap.nx_set | apply Heap.nx_new | apply Heap.nx_kill | apply Heap.nx_room); first | assumption | rfl)) (by omega))) ?_)
      | (show NEWN _ _; refine NEWN.mk (by ((repeat first | apply Heap.nx_set | apply Heap.nx_new | apply Heap.nx_kill | apply Heap.nx_room); first | assumption | rfl)) ?_)
      | (show SETN _ _ _ _ _ _; refine SETN.mk (by ((repeat first | refine Heap.room_get ?_ | refine Heap.set_skip (by omega) ?_ | refine Heap.new_skip (by ((repeat first | apply Heap.nx_set | apply Heap.nx_new | apply Heap.nx_kill | apply Heap.nx_room); first | assumption | rfl)) (by omega) ?_ | refine Exd.skip (by assumption) (by omega) ?_); first | assumption | exact Heap.set_at (by omega) | exact Heap.new_at (by ((repeat first | apply Heap.nx_set | apply Heap.nx_new | apply Heap.nx_kill | apply Heap.nx_room); first | assumption | rfl)) (by omega))) (by rfl) (by (first | decide | (simp; done) | (simp; omega))) ?_)
      | (show DOESN _ _; refine DOESN.mk (by first | rfl | omega | (simp; done) | (simp; omega)) ?_)
      | (refine BC.yes (by assumption) ?_)
      | (refine BC.no (by assumption) ?_)
      | (refine BC.split (fun _ => ?_) (fun _ => ?_))
      | (refine SOMEN.mk (by rfl) ?_)
      | (refine scopeC ?_)
      | (refine drawC0 (hist := fun _ => Heap.empty 0) rfl ?_)
      | (refine drawC (hist := fun _ => Heap.empty 0) rfl ?_)
      | (show NUMN _ _; refine NUMN.mk (by ((repeat first | apply Heap.nx_set | apply Heap.nx_new | apply Heap.nx_kill | apply Heap.nx_room); first | assumption | rfl)) ?_)
      | (show LOOKN _ _ _ _ _ _; refine LOOKN.mk (by first | exact QV.load rfl (by ((repeat first | refine Heap.room_get ?_ | refine Heap.set_skip (by omega) ?_ | refine Heap.new_skip (by ((repeat first | apply Heap.nx_set | apply Heap.nx_new | apply Heap.nx_kill | apply Heap.nx_room); first | assumption | rfl)) (by omega) ?_ | refine Exd.skip (by assumption) (by omega) ?_); first | assumption | exact Heap.set_at (by omega) | exact Heap.new_at (by ((repeat first | apply Heap.nx_set | apply Heap.nx_new | apply Heap.nx_kill | apply Heap.nx_room); first | assumption | rfl)) (by omega))) (by rfl) | exact QV.loadA rfl (by ((repeat first | refine Heap.room_get ?_ | refine Heap.set_skip (by omega) ?_ | refine Heap.new_skip (by ((repeat first | apply Heap.nx_set | apply Heap.nx_new | apply Heap.nx_kill | apply Heap.nx_room); first | assumption | rfl)) (by omega) ?_ | refine Exd.skip (by assumption) (by omega) ?_); first | assumption | exact Heap.set_at (by omega) | exact Heap.new_at (by ((repeat first | apply Heap.nx_set | apply Heap.nx_new | apply Heap.nx_kill | apply Heap.nx_room); first | assumption | rfl)) (by omega))) (by rfl) (by rfl)) ?_)
      | fail)))
    exact q
theorem pops_cal (t : Tabs h) (q : Q (.int .i64 (tabOf opPops op)) h) : Cal tt 11 [.int .i64 op] h Q := by
  by_cases hi : isOp op
  · obtain ⟨k, rfl, h1, h2⟩ := isOp_nat hi
    rw [tab_nat h1 h2] at q
    have g := t.b
    refine Cal.run rfl rfl rfl rfl ?_
    (repeat' ((conv => whnf); (first
      | (refine CALLN.of (is_cal ?_))
      | (refine BC.yes (decide_eq_true hi) ?_)
      | (refine AT.of (at_int (by show k < 39; exact h2)) ?_)
      | (refine LTN.yes (by omega) ?_)
      | (refine LTN.no (by omega) ?_)
      | (refine LTN.mk (fun _ => ?_) (fun _ => ?_))
      | (refine EQN.yes (by omega) ?_)
      | (refine EQN.no (by omega) ?_)
      | (refine EQN.mk (fun _ => ?_) (fun _ => ?_))
      | (refine EQSN.yes (by first | rfl | assumption) ?_)
      | (refine EQSN.no (by first | decide | assumption) ?_)
      | (refine EQSN.mk (fun _ => ?_) (fun _ => ?_))
      | (refine ARN.in (by omega) ?_)
      | (refine ARN.fits (by first | (apply u8_in; omega) | (apply i32_in; omega) | (apply u32_in; omega)) ?_)
      | (refine QUON.pos (by omega) ?_)
      | (refine REMN.pos (by omega) ?_)
      | (refine REMN.mk (by omega) ?_)
      | (show GETN _ _ _; refine GETN.mk (by ((repeat first | refine Heap.room_get ?_ | refine Heap.set_skip (by omega) ?_ | refine Heap.new_skip (by ((repeat first | apply Heap.nx_set | apply Heap.nx_new | apply Heap.nx_kill | apply Heap.nx_room); first | assumption | rfl)) (by omega) ?_ | refine Exd.skip (by assumption) (by omega) ?_); first | assumption | exact Heap.set_at (by omega) | exact Heap.new_at (by ((repeat first | apply Heap.nx_set | apply Heap.nx_new | apply Heap.nx_kill | apply Heap.nx_room); first | assumption | rfl)) (by omega))) ?_)
      | (show GETM _ _ _; refine GETM.mk (by ((repeat first | refine Heap.room_get ?_ | refine Heap.set_skip (by omega) ?_ | refine Heap.new_skip (by ((repeat first | apply Heap.nx_set | apply Heap.nx_new | apply Heap.nx_kill | apply Heap.nx_room); first | assumption | rfl)) (by omega) ?_ | refine Exd.skip (by assumption) (by omega) ?_); first | assumption | exact Heap.set_at (by omega) | exact Heap.new_at (by ((repeat first | apply Heap.nx_set | apply Heap.nx_new | apply Heap.nx_kill | apply Heap.nx_room); first | assumption | rfl)) (by omega))) ?_)
      | (show NEWN _ _; refine NEWN.mk (by ((repeat first | apply Heap.nx_set | apply Heap.nx_new | apply Heap.nx_kill | apply Heap.nx_room); first | assumption | rfl)) ?_)
      | (show SETN _ _ _ _ _ _; refine SETN.mk (by ((repeat first | refine Heap.room_get ?_ | refine Heap.set_skip (by omega) ?_ | refine Heap.new_skip (by ((repeat first | apply Heap.nx_set | apply Heap.nx_new | apply Heap.nx_kill | apply Heap.nx_room); first | assumption | rfl)) (by omega) ?_ | refine Exd.skip (by assumption) (by omega) ?_); first | assumption | exact Heap.set_at (by omega) | exact Heap.new_at (by ((repeat first | apply Heap.nx_set | apply Heap.nx_new | apply Heap.nx_kill | apply Heap.nx_room); first | assumption | rfl)) (by omega))) (by rfl) (by (first | decide | (simp; done) | (simp; omega))) ?_)
      | (show DOESN _ _; refine DOESN.mk (by first | rfl | omega | (simp; done) | (simp; omega)) ?_)
      | (refine BC.yes (by assumption) ?_)
      | (refine BC.no (by assumption) ?_)
      | (refine BC.split (fun _ => ?_) (fun _ => ?_))
      | (refine SOMEN.mk (by rfl) ?_)
      | (refine scopeC ?_)
      | (refine drawC0 (hist := fun _ => Heap.empty 0) rfl ?_)
      | (refine drawC (hist := fun _ => Heap.empty 0) rfl ?_)
      | (show NUMN _ _; refine NUMN.mk (by ((repeat first | apply Heap.nx_set | apply Heap.nx_new | apply Heap.nx_kill | apply Heap.nx_room); first | assumption | rfl)) ?_)
      | (show LOOKN _ _ _ _ _ _; refine LOOKN.mk (by first | exact QV.load rfl (by ((repeat first | refine Heap.room_get ?_ | refine Heap.set_skip (by omega) ?_ | refine Heap.new_skip (by ((repeat first | apply Heap.nx_set | apply Heap.nx_new | apply Heap.nx_kill | apply Heap.nx_room); first | assumption | rfl)) (by omega) ?_ | refine Exd.skip (by assumption) (by omega) ?_); first | assumption | exact Heap.set_at (by omega) | exact Heap.new_at (by ((repeat first | apply Heap.nx_set | apply Heap.nx_new | apply Heap.nx_kill | apply Heap.nx_room); first | assumption | rfl)) (by omega))) (by rfl) | exact QV.loadA rfl (by ((repeat first | refine Heap.room_get ?_ | refine Heap.set_skip (by omega) ?_ | refine Heap.new_skip (by ((repeat first | apply Heap.nx_set | apply Heap.nx_new | apply Heap.nx_kill | apply Heap.nx_room); first | assumption | rfl)) (by omega) ?_ | refine Exd.skip (by assumption) (by omega) ?_); first | assumption | exact Heap.set_at (by omega) | exact Heap.new_at (by ((repeat first | apply Heap.nx_set | apply Heap.nx_new | apply Heap.nx_kill | apply Heap.nx_room); first | assumption | rfl)) (by omega))) (by rfl) (by rfl)) ?_)
      | fail)))
    exact q
  · rw [tabOf, if_neg hi] at q
    refine Cal.run rfl rfl rfl rfl ?_
    (repeat' ((conv => whnf); (first
      | (refine CALLN.of (is_cal ?_))
      | (refine BC.no (decide_eq_false hi) ?_)
      | (refine LTN.yes (by omega) ?_)
      | (refine LTN.no (by omega) ?_)
      | (refine LTN.mk (fun _ => ?_) (fun _ => ?_))
      | (refine EQN.yes (by omega) ?_)
      | (refine EQN.no (by omega) ?_)
      | (refine EQN.mk (fun _ => ?_) (fun _ => ?_))
      | (refine EQSN.yes (by first | rfl | assumption) ?_)
      | (refine EQSN.no (by first | decide | assumption) ?_)
      | (refine EQSN.mk (fun _ => ?_) (fun _ => ?_))
      | (refine ARN.in (by omega) ?_)
      | (refine ARN.fits (by first | (apply u8_in; omega) | (apply i32_in; omega) | (apply u32_in; omega)) ?_)
      | (refine QUON.pos (by omega) ?_)
      | (refine REMN.pos (by omega) ?_)
      | (refine REMN.mk (by omega) ?_)
      | (show GETN _ _ _; refine GETN.mk (by ((repeat first | refine Heap.room_get ?_ | refine Heap.set_skip (by omega) ?_ | refine Heap.new_skip (by ((repeat first | apply Heap.nx_set | apply Heap.nx_new | apply Heap.nx_kill | apply Heap.nx_room); first | assumption | rfl)) (by omega) ?_ | refine Exd.skip (by assumption) (by omega) ?_); first | assumption | exact Heap.set_at (by omega) | exact Heap.new_at (by ((repeat first | apply Heap.nx_set | apply Heap.nx_new | apply Heap.nx_kill | apply Heap.nx_room); first | assumption | rfl)) (by omega))) ?_)
      | (show GETM _ _ _; refine GETM.mk (by ((repeat first | refine Heap.room_get ?_ | refine Heap.set_skip (by omega) ?_ | refine Heap.new_skip (by ((repeat first | apply Heap.nx_set | apply Heap.nx_new | apply Heap.nx_kill | apply Heap.nx_room); first | assumption | rfl)) (by omega) ?_ | refine Exd.skip (by assumption) (by omega) ?_); first | assumption | exact Heap.set_at (by omega) | exact Heap.new_at (by ((repeat first | apply Heap.nx_set | apply Heap.nx_new | apply Heap.nx_kill | apply Heap.nx_room); first | assumption | rfl)) (by omega))) ?_)
      | (show NEWN _ _; refine NEWN.mk (by ((repeat first | apply Heap.nx_set | apply Heap.nx_new | apply Heap.nx_kill | apply Heap.nx_room); first | assumption | rfl)) ?_)
      | (show SETN _ _ _ _ _ _; refine SETN.mk (by ((repeat first | refine Heap.room_get ?_ | refine Heap.set_skip (by omega) ?_ | refine Heap.new_skip (by ((repeat first | apply Heap.nx_set | apply Heap.nx_new | apply Heap.nx_kill | apply Heap.nx_room); first | assumption | rfl)) (by omega) ?_ | refine Exd.skip (by assumption) (by omega) ?_); first | assumption | exact Heap.set_at (by omega) | exact Heap.new_at (by ((repeat first | apply Heap.nx_set | apply Heap.nx_new | apply Heap.nx_kill | apply Heap.nx_room); first | assumption | rfl)) (by omega))) (by rfl) (by (first | decide | (simp; done) | (simp; omega))) ?_)
      | (show DOESN _ _; refine DOESN.mk (by first | rfl | omega | (simp; done) | (simp; omega)) ?_)
      | (refine BC.yes (by assumption) ?_)
      | (refine BC.no (by assumption) ?_)
      | (refine BC.split (fun _ => ?_) (fun _ => ?_))
      | (refine SOMEN.mk (by rfl) ?_)
      | (refine scopeC ?_)
      | (refine drawC0 (hist := fun _ => Heap.empty 0) rfl ?_)
      | (refine drawC (hist := fun _ => Heap.empty 0) rfl ?_)
      | (show NUMN _ _; refine NUMN.mk (by ((repeat first | apply Heap.nx_set | apply Heap.nx_new | apply Heap.nx_kill | apply Heap.nx_room); first | assumption | rfl)) ?_)
      | (show LOOKN _ _ _ _ _ _; refine LOOKN.mk (by first | exact QV.load rfl (by ((repeat first | refine Heap.room_get ?_ | refine Heap.set_skip (by omega) ?_ | refine Heap.new_skip (by ((repeat first | apply Heap.nx_set | apply Heap.nx_new | apply Heap.nx_kill | apply Heap.nx_room); first | assumption | rfl)) (by omega) ?_ | refine Exd.skip (by assumption) (by omega) ?_); first | assumption | exact Heap.set_at (by omega) | exact Heap.new_at (by ((repeat first | apply Heap.nx_set | apply Heap.nx_new | apply Heap.nx_kill | apply Heap.nx_room); first | assumption | rfl)) (by omega))) (by rfl) | exact QV.loadA rfl (by ((repeat first | refine Heap.room_get ?_ | refine Heap.set_skip (by omega) ?_ | refine Heap.new_skip (by ((repeat first | apply Heap.nx_set | apply Heap.nx_new | apply Heap.nx_kill | apply Heap.nx_room); first | assumption | rfl)) (by omega) ?_ | refine Exd.skip (by assumption) (by omega) ?_); first | assumption | exact Heap.set_at (by omega) | exact Heap.new_at (by ((repeat first | apply Heap.nx_set | apply Heap.nx_new | apply Heap.nx_kill | apply Heap.nx_room); first | assumption | rfl)) (by omega))) (by rfl) (by rfl)) ?_)
      | fail)))
    exact q
theorem pushes_cal (t : Tabs h) (q : Q (.int .i64 (tabOf opPushes op)) h) : Cal tt 13 [.int .i64 op] h Q := by
  by_cases hi : isOp op
  · obtain ⟨k, rfl, h1, h2⟩ := isOp_nat hi
    rw [tab_nat h1 h2] at q
    have g := t.c
    refine Cal.run rfl rfl rfl rfl ?_
    (repeat' ((conv => whnf); (first
      | (refine CALLN.of (is_cal ?_))
      | (refine BC.yes (decide_eq_true hi) ?_)
      | (refine AT.of (at_int (by show k < 39; exact h2)) ?_)
      | (refine LTN.yes (by omega) ?_)
      | (refine LTN.no (by omega) ?_)
      | (refine LTN.mk (fun _ => ?_) (fun _ => ?_))
      | (refine EQN.yes (by omega) ?_)
      | (refine EQN.no (by omega) ?_)
      | (refine EQN.mk (fun _ => ?_) (fun _ => ?_))
      | (refine EQSN.yes (by first | rfl | assumption) ?_)
      | (refine EQSN.no (by first | decide | assumption) ?_)
      | (refine EQSN.mk (fun _ => ?_) (fun _ => ?_))
      | (refine ARN.in (by omega) ?_)
      | (refine ARN.fits (by first | (apply u8_in; omega) | (apply i32_in; omega) | (apply u32_in; omega)) ?_)
      | (refine QUON.pos (by omega) ?_)
      | (refine REMN.pos (by omega) ?_)
      | (refine REMN.mk (by omega) ?_)
      | (show GETN _ _ _; refine GETN.mk (by ((repeat first | refine Heap.room_get ?_ | refine Heap.set_skip (by omega) ?_ | refine Heap.new_skip (by ((repeat first | apply Heap.nx_set | apply Heap.nx_new | apply Heap.nx_kill | apply Heap.nx_room); first | assumption | rfl)) (by omega) ?_ | refine Exd.skip (by assumption) (by omega) ?_); first | assumption | exact Heap.set_at (by omega) | exact Heap.new_at (by ((repeat first | apply Heap.nx_set | apply Heap.nx_new | apply Heap.nx_kill | apply Heap.nx_room); first | assumption | rfl)) (by omega))) ?_)
      | (show GETM _ _ _; refine GETM.mk (by ((repeat first | refine Heap.room_get ?_ | refine Heap.set_skip (by omega) ?_ | refine Heap.new_skip (by ((repeat first | apply Heap.nx_set | apply Heap.nx_new | apply Heap.nx_kill | apply Heap.nx_room); first | assumption | rfl)) (by omega) ?_ | refine Exd.skip (by assumption) (by omega) ?_); first | assumption | exact Heap.set_at (by omega) | exact Heap.new_at (by ((repeat first | apply Heap.nx_set | apply Heap.nx_new | apply Heap.nx_kill | apply Heap.nx_room); first | assumption | rfl)) (by omega))) ?_)
      | (show NEWN _ _; refine NEWN.mk (by ((repeat first | apply Heap.nx_set | apply Heap.nx_new | apply Heap.nx_kill | apply Heap.nx_room); first | assumption | rfl)) ?_)
      | (show SETN _ _ _ _ _ _; refine SETN.mk (by ((repeat first | refine Heap.room_get ?_ | refine Heap.set_skip (by omega) ?_ | refine Heap.new_skip (by ((repeat first | apply Heap.nx_set | apply Heap.nx_new | apply Heap.nx_kill | apply Heap.nx_room); first | assumption | rfl)) (by omega) ?_ | refine Exd.skip (by assumption) (by omega) ?_); first | assumption | exact Heap.set_at (by omega) | exact Heap.new_at (by ((repeat first | apply Heap.nx_set | apply Heap.nx_new | apply Heap.nx_kill | apply Heap.nx_room); first | assumption | rfl)) (by omega))) (by rfl) (by (first | decide | (simp; done) | (simp; omega))) ?_)
      | (show DOESN _ _; refine DOESN.mk (by first | rfl | omega | (simp; done) | (simp; omega)) ?_)
      | (refine BC.yes (by assumption) ?_)
      | (refine BC.no (by assumption) ?_)
      | (refine BC.split (fun _ => ?_) (fun _ => ?_))
      | (refine SOMEN.mk (by rfl) ?_)
      | (refine scopeC ?_)
      | (refine drawC0 (hist := fun _ => Heap.empty 0) rfl ?_)
      | (refine drawC (hist := fun _ => Heap.empty 0) rfl ?_)
      | (show NUMN _ _; refine NUMN.mk (by ((repeat first | apply Heap.nx_set | apply Heap.nx_new | apply Heap.nx_kill | apply Heap.nx_room); first | assumption | rfl)) ?_)
      | (show LOOKN _ _ _ _ _ _; refine LOOKN.mk (by first | exact QV.load rfl (by ((repeat first | refine Heap.room_get ?_ | refine Heap.set_skip (by omega) ?_ | refine Heap.new_skip (by ((repeat first | apply Heap.nx_set | apply Heap.nx_new | apply Heap.nx_kill | apply Heap.nx_room); first | assumption | rfl)) (by omega) ?_ | refine Exd.skip (by assumption) (by omega) ?_); first | assumption | exact Heap.set_at (by omega) | exact Heap.new_at (by ((repeat first | apply Heap.nx_set | apply Heap.nx_new | apply Heap.nx_kill | apply Heap.nx_room); first | assumption | rfl)) (by omega))) (by rfl) | exact QV.loadA rfl (by ((repeat first | refine Heap.room_get ?_ | refine Heap.set_skip (by omega) ?_ | refine Heap.new_skip (by ((repeat first | apply Heap.nx_set | apply Heap.nx_new | apply Heap.nx_kill | apply Heap.nx_room); first | assumption | rfl)) (by omega) ?_ | refine Exd.skip (by assumption) (by omega) ?_); first | assumption | exact Heap.set_at (by omega) | exact Heap.new_at (by ((repeat first | apply Heap.nx_set | apply Heap.nx_new | apply Heap.nx_kill | apply Heap.nx_room); first | assumption | rfl)) (by omega))) (by rfl) (by rfl)) ?_)
      | fail)))
    exact q
  · rw [tabOf, if_neg hi] at q
    refine Cal.run rfl rfl rfl rfl ?_
    (repeat' ((conv => whnf); (first
      | (refine CALLN.of (is_cal ?_))
      | (refine BC.no (decide_eq_false hi) ?_)
      | (refine LTN.yes (by omega) ?_)
      | (refine LTN.no (by omega) ?_)
      | (refine LTN.mk (fun _ => ?_) (fun _ => ?_))
      | (refine EQN.yes (by omega) ?_)
      | (refine EQN.no (by omega) ?_)
      | (refine EQN.mk (fun _ => ?_) (fun _ => ?_))
      | (refine EQSN.yes (by first | rfl | assumption) ?_)
      | (refine EQSN.no (by first | decide | assumption) ?_)
      | (refine EQSN.mk (fun _ => ?_) (fun _ => ?_))
      | (refine ARN.in (by omega) ?_)
      | (refine ARN.fits (by first | (apply u8_in; omega) | (apply i32_in; omega) | (apply u32_in; omega)) ?_)
      | (refine QUON.pos (by omega) ?_)
      | (refine REMN.pos (by omega) ?_)
      | (refine REMN.mk (by omega) ?_)
      | (show GETN _ _ _; refine GETN.mk (by ((repeat first | refine Heap.room_get ?_ | refine Heap.set_skip (by omega) ?_ | refine Heap.new_skip (by ((repeat first | apply Heap.nx_set | apply Heap.nx_new | apply Heap.nx_kill | apply Heap.nx_room); first | assumption | rfl)) (by omega) ?_ | refine Exd.skip (by assumption) (by omega) ?_); first | assumption | exact Heap.set_at (by omega) | exact Heap.new_at (by ((repeat first | apply Heap.nx_set | apply Heap.nx_new | apply Heap.nx_kill | apply Heap.nx_room); first | assumption | rfl)) (by omega))) ?_)
      | (show GETM _ _ _; refine GETM.mk (by ((repeat first | refine Heap.room_get ?_ | refine Heap.set_skip (by omega) ?_ | refine Heap.new_skip (by ((repeat first | apply Heap.nx_set | apply Heap.nx_new | apply Heap.nx_kill | apply Heap.nx_room); first | assumption | rfl)) (by omega) ?_ | refine Exd.skip (by assumption) (by omega) ?_); first | assumption | exact Heap.set_at (by omega) | exact Heap.new_at (by ((repeat first | apply Heap.nx_set | apply Heap.nx_new | apply Heap.nx_kill | apply Heap.nx_room); first | assumption | rfl)) (by omega))) ?_)
      | (show NEWN _ _; refine NEWN.mk (by ((repeat first | apply Heap.nx_set | apply Heap.nx_new | apply Heap.nx_kill | apply Heap.nx_room); first | assumption | rfl)) ?_)
      | (show SETN _ _ _ _ _ _; refine SETN.mk (by ((repeat first | refine Heap.room_get ?_ | refine Heap.set_skip (by omega) ?_ | refine Heap.new_skip (by ((repeat first | apply Heap.nx_set | apply Heap.nx_new | apply Heap.nx_kill | apply Heap.nx_room); first | assumption | rfl)) (by omega) ?_ | refine Exd.skip (by assumption) (by omega) ?_); first | assumption | exact Heap.set_at (by omega) | exact Heap.new_at (by ((repeat first | apply Heap.nx_set | apply Heap.nx_new | apply Heap.nx_kill | apply Heap.nx_room); first | assumption | rfl)) (by omega))) (by rfl) (by (first | decide | (simp; done) | (simp; omega))) ?_)
      | (show DOESN _ _; refine DOESN.mk (by first | rfl | omega | (simp; done) | (simp; omega)) ?_)
      | (refine BC.yes (by assumption) ?_)
      | (refine BC.no (by assumption) ?_)
      | (refine BC.split (fun _ => ?_) (fun _ => ?_))
      | (refine SOMEN.mk (by rfl) ?_)
      | (refine scopeC ?_)
      | (refine drawC0 (hist := fun _ => Heap.empty 0) rfl ?_)
      | (refine drawC (hist := fun _ => Heap.empty 0) rfl ?_)
      | (show NUMN _ _; refine NUMN.mk (by ((repeat first | apply Heap.nx_set | apply Heap.nx_new | apply Heap.nx_kill | apply Heap.nx_room); first | assumption | rfl)) ?_)
      | (show LOOKN _ _ _ _ _ _; refine LOOKN.mk (by first | exact QV.load rfl (by ((repeat first | refine Heap.room_get ?_ | refine Heap.set_skip (by omega) ?_ | refine Heap.new_skip (by ((repeat first | apply Heap.nx_set | apply Heap.nx_new | apply Heap.nx_kill | apply Heap.nx_room); first | assumption | rfl)) (by omega) ?_ | refine Exd.skip (by assumption) (by omega) ?_); first | assumption | exact Heap.set_at (by omega) | exact Heap.new_at (by ((repeat first | apply Heap.nx_set | apply Heap.nx_new | apply Heap.nx_kill | apply Heap.nx_room); first | assumption | rfl)) (by omega))) (by rfl) | exact QV.loadA rfl (by ((repeat first | refine Heap.room_get ?_ | refine Heap.set_skip (by omega) ?_ | refine Heap.new_skip (by ((repeat first | apply Heap.nx_set | apply Heap.nx_new | apply Heap.nx_kill | apply Heap.nx_room); first | assumption | rfl)) (by omega) ?_ | refine Exd.skip (by assumption) (by omega) ?_); first | assumption | exact Heap.set_at (by omega) | exact Heap.new_at (by ((repeat first | apply Heap.nx_set | apply Heap.nx_new | apply Heap.nx_kill | apply Heap.nx_room); first | assumption | rfl)) (by omega))) (by rfl) (by rfl)) ?_)
      | fail)))
    exact q
theorem name_cal (t : Tabs h) (q : Q (.str (nm op)) h) : Cal tt 15 [.int .i64 op] h Q := by
  by_cases hi : isOp op
  · obtain ⟨k, rfl, h1, h2⟩ := isOp_nat hi
    rw [nm_nat h1 h2] at q
    have g := t.d
    refine Cal.run rfl rfl rfl rfl ?_
    (repeat' ((conv => whnf); (first
      | (refine CALLN.of (is_cal ?_))
      | (refine BC.yes (decide_eq_true hi) ?_)
      | (refine AT.of (at_str (by show k < 39; exact h2)) ?_)
      | (refine LTN.yes (by omega) ?_)
      | (refine LTN.no (by omega) ?_)
      | (refine LTN.mk (fun _ => ?_) (fun _ => ?_))
      | (refine EQN.yes (by omega) ?_)
      | (refine EQN.no (by omega) ?_)
      | (refine EQN.mk (fun _ => ?_) (fun _ => ?_))
      | (refine EQSN.yes (by first | rfl | assumption) ?_)
      | (refine EQSN.no (by first | decide | assumption) ?_)
      | (refine EQSN.mk (fun _ => ?_) (fun _ => ?_))
      | (refine ARN.in (by omega) ?_)
      | (refine ARN.fits (by first | (apply u8_in; omega) | (apply i32_in; omega) | (apply u32_in; omega)) ?_)
      | (refine QUON.pos (by omega) ?_)
      | (refine REMN.pos (by omega) ?_)
      | (refine REMN.mk (by omega) ?_)
      | (show GETN _ _ _; refine GETN.mk (by ((repeat first | refine Heap.room_get ?_ | refine Heap.set_skip (by omega) ?_ | refine Heap.new_skip (by ((repeat first | apply Heap.nx_set | apply Heap.nx_new | apply Heap.nx_kill | apply Heap.nx_room); first | assumption | rfl)) (by omega) ?_ | refine Exd.skip (by assumption) (by omega) ?_); first | assumption | exact Heap.set_at (by omega) | exact Heap.new_at (by ((repeat first | apply Heap.nx_set | apply Heap.nx_new | apply Heap.nx_kill | apply Heap.nx_room); first | assumption | rfl)) (by omega))) ?_)
      | (show GETM _ _ _; refine GETM.mk (by ((repeat first | refine Heap.room_get ?_ | refine Heap.set_skip (by omega) ?_ | refine Heap.new_skip (by ((repeat first | apply Heap.nx_set | apply Heap.nx_new | apply Heap.nx_kill | apply Heap.nx_room); first | assumption | rfl)) (by omega) ?_ | refine Exd.skip (by assumption) (by omega) ?_); first | assumption | exact Heap.set_at (by omega) | exact Heap.new_at (by ((repeat first | apply Heap.nx_set | apply Heap.nx_new | apply Heap.nx_kill | apply Heap.nx_room); first | assumption | rfl)) (by omega))) ?_)
      | (show NEWN _ _; refine NEWN.mk (by ((repeat first | apply Heap.nx_set | apply Heap.nx_new | apply Heap.nx_kill | apply Heap.nx_room); first | assumption | rfl)) ?_)
      | (show SETN _ _ _ _ _ _; refine SETN.mk (by ((repeat first | refine Heap.room_get ?_ | refine Heap.set_skip (by omega) ?_ | refine Heap.new_skip (by ((repeat first | apply Heap.nx_set | apply Heap.nx_new | apply Heap.nx_kill | apply Heap.nx_room); first | assumption | rfl)) (by omega) ?_ | refine Exd.skip (by assumption) (by omega) ?_); first | assumption | exact Heap.set_at (by omega) | exact Heap.new_at (by ((repeat first | apply Heap.nx_set | apply Heap.nx_new | apply Heap.nx_kill | apply Heap.nx_room); first | assumption | rfl)) (by omega))) (by rfl) (by (first | decide | (simp; done) | (simp; omega))) ?_)
      | (show DOESN _ _; refine DOESN.mk (by first | rfl | omega | (simp; done) | (simp; omega)) ?_)
      | (refine BC.yes (by assumption) ?_)
      | (refine BC.no (by assumption) ?_)
      | (refine BC.split (fun _ => ?_) (fun _ => ?_))
      | (refine SOMEN.mk (by rfl) ?_)
      | (refine scopeC ?_)
      | (refine drawC0 (hist := fun _ => Heap.empty 0) rfl ?_)
      | (refine drawC (hist := fun _ => Heap.empty 0) rfl ?_)
      | (show NUMN _ _; refine NUMN.mk (by ((repeat first | apply Heap.nx_set | apply Heap.nx_new | apply Heap.nx_kill | apply Heap.nx_room); first | assumption | rfl)) ?_)
      | (show LOOKN _ _ _ _ _ _; refine LOOKN.mk (by first | exact QV.load rfl (by ((repeat first | refine Heap.room_get ?_ | refine Heap.set_skip (by omega) ?_ | refine Heap.new_skip (by ((repeat first | apply Heap.nx_set | apply Heap.nx_new | apply Heap.nx_kill | apply Heap.nx_room); first | assumption | rfl)) (by omega) ?_ | refine Exd.skip (by assumption) (by omega) ?_); first | assumption | exact Heap.set_at (by omega) | exact Heap.new_at (by ((repeat first | apply Heap.nx_set | apply Heap.nx_new | apply Heap.nx_kill | apply Heap.nx_room); first | assumption | rfl)) (by omega))) (by rfl) | exact QV.loadA rfl (by ((repeat first | refine Heap.room_get ?_ | refine Heap.set_skip (by omega) ?_ | refine Heap.new_skip (by ((repeat first | apply Heap.nx_set | apply Heap.nx_new | apply Heap.nx_kill | apply Heap.nx_room); first | assumption | rfl)) (by omega) ?_ | refine Exd.skip (by assumption) (by omega) ?_); first | assumption | exact Heap.set_at (by omega) | exact Heap.new_at (by ((repeat first | apply Heap.nx_set | apply Heap.nx_new | apply Heap.nx_kill | apply Heap.nx_room); first | assumption | rfl)) (by omega))) (by rfl) (by rfl)) ?_)
      | fail)))
    exact q
  · rw [nm_none hi] at q
    refine Cal.run rfl rfl rfl rfl ?_
    (repeat' ((conv => whnf); (first
      | (refine CALLN.of (is_cal ?_))
      | (refine BC.no (decide_eq_false hi) ?_)
      | (refine LTN.yes (by omega) ?_)
      | (refine LTN.no (by omega) ?_)
      | (refine LTN.mk (fun _ => ?_) (fun _ => ?_))
      | (refine EQN.yes (by omega) ?_)
      | (refine EQN.no (by omega) ?_)
      | (refine EQN.mk (fun _ => ?_) (fun _ => ?_))
      | (refine EQSN.yes (by first | rfl | assumption) ?_)
      | (refine EQSN.no (by first | decide | assumption) ?_)
      | (refine EQSN.mk (fun _ => ?_) (fun _ => ?_))
      | (refine ARN.in (by omega) ?_)
      | (refine ARN.fits (by first | (apply u8_in; omega) | (apply i32_in; omega) | (apply u32_in; omega)) ?_)
      | (refine QUON.pos (by omega) ?_)
      | (refine REMN.pos (by omega) ?_)
      | (refine REMN.mk (by omega) ?_)
      | (show GETN _ _ _; refine GETN.mk (by ((repeat first | refine Heap.room_get ?_ | refine Heap.set_skip (by omega) ?_ | refine Heap.new_skip (by ((repeat first | apply Heap.nx_set | apply Heap.nx_new | apply Heap.nx_kill | apply Heap.nx_room); first | assumption | rfl)) (by omega) ?_ | refine Exd.skip (by assumption) (by omega) ?_); first | assumption | exact Heap.set_at (by omega) | exact Heap.new_at (by ((repeat first | apply Heap.nx_set | apply Heap.nx_new | apply Heap.nx_kill | apply Heap.nx_room); first | assumption | rfl)) (by omega))) ?_)
      | (show GETM _ _ _; refine GETM.mk (by ((repeat first | refine Heap.room_get ?_ | refine Heap.set_skip (by omega) ?_ | refine Heap.new_skip (by ((repeat first | apply Heap.nx_set | apply Heap.nx_new | apply Heap.nx_kill | apply Heap.nx_room); first | assumption | rfl)) (by omega) ?_ | refine Exd.skip (by assumption) (by omega) ?_); first | assumption | exact Heap.set_at (by omega) | exact Heap.new_at (by ((repeat first | apply Heap.nx_set | apply Heap.nx_new | apply Heap.nx_kill | apply Heap.nx_room); first | assumption | rfl)) (by omega))) ?_)
      | (show NEWN _ _; refine NEWN.mk (by ((repeat first | apply Heap.nx_set | apply Heap.nx_new | apply Heap.nx_kill | apply Heap.nx_room); first | assumption | rfl)) ?_)
      | (show SETN _ _ _ _ _ _; refine SETN.mk (by ((repeat first | refine Heap.room_get ?_ | refine Heap.set_skip (by omega) ?_ | refine Heap.new_skip (by ((repeat first | apply Heap.nx_set | apply Heap.nx_new | apply Heap.nx_kill | apply Heap.nx_room); first | assumption | rfl)) (by omega) ?_ | refine Exd.skip (by assumption) (by omega) ?_); first | assumption | exact Heap.set_at (by omega) | exact Heap.new_at (by ((repeat first | apply Heap.nx_set | apply Heap.nx_new | apply Heap.nx_kill | apply Heap.nx_room); first | assumption | rfl)) (by omega))) (by rfl) (by (first | decide | (simp; done) | (simp; omega))) ?_)
      | (show DOESN _ _; refine DOESN.mk (by first | rfl | omega | (simp; done) | (simp; omega)) ?_)
      | (refine BC.yes (by assumption) ?_)
      | (refine BC.no (by assumption) ?_)
      | (refine BC.split (fun _ => ?_) (fun _ => ?_))
      | (refine SOMEN.mk (by rfl) ?_)
      | (refine scopeC ?_)
      | (refine drawC0 (hist := fun _ => Heap.empty 0) rfl ?_)
      | (refine drawC (hist := fun _ => Heap.empty 0) rfl ?_)
      | (show NUMN _ _; refine NUMN.mk (by ((repeat first | apply Heap.nx_set | apply Heap.nx_new | apply Heap.nx_kill | apply Heap.nx_room); first | assumption | rfl)) ?_)
      | (show LOOKN _ _ _ _ _ _; refine LOOKN.mk (by first | exact QV.load rfl (by ((repeat first | refine Heap.room_get ?_ | refine Heap.set_skip (by omega) ?_ | refine Heap.new_skip (by ((repeat first | apply Heap.nx_set | apply Heap.nx_new | apply Heap.nx_kill | apply Heap.nx_room); first | assumption | rfl)) (by omega) ?_ | refine Exd.skip (by assumption) (by omega) ?_); first | assumption | exact Heap.set_at (by omega) | exact Heap.new_at (by ((repeat first | apply Heap.nx_set | apply Heap.nx_new | apply Heap.nx_kill | apply Heap.nx_room); first | assumption | rfl)) (by omega))) (by rfl) | exact QV.loadA rfl (by ((repeat first | refine Heap.room_get ?_ | refine Heap.set_skip (by omega) ?_ | refine Heap.new_skip (by ((repeat first | apply Heap.nx_set | apply Heap.nx_new | apply Heap.nx_kill | apply Heap.nx_room); first | assumption | rfl)) (by omega) ?_ | refine Exd.skip (by assumption) (by omega) ?_); first | assumption | exact Heap.set_at (by omega) | exact Heap.new_at (by ((repeat first | apply Heap.nx_set | apply Heap.nx_new | apply Heap.nx_kill | apply Heap.nx_room); first | assumption | rfl)) (by omega))) (by rfl) (by rfl)) ?_)
      | fail)))
    exact q

set_option maxHeartbeats 4000000 in
theorem operandsR_cal (q : Q (.int .i64 (tabOf opOperands op)) h) : Cal tt 10 [.int .i64 op] h Q := by
  have q1 : ∀ x, tabOf opOperands op = x → Q (.int .i64 x) h := fun x e => e ▸ q
  refine Cal.run rfl rfl rfl rfl ?_
  (repeat' ((conv => whnf); (first
      | (refine LTN.yes (by omega) ?_)
      | (refine LTN.no (by omega) ?_)
      | (refine LTN.mk (fun _ => ?_) (fun _ => ?_))
      | (refine EQN.yes (by omega) ?_)
      | (refine EQN.no (by omega) ?_)
      | (refine EQN.mk (fun _ => ?_) (fun _ => ?_))
      | (refine EQSN.yes (by first | rfl | assumption) ?_)
      | (refine EQSN.no (by first | decide | assumption) ?_)
      | (refine EQSN.mk (fun _ => ?_) (fun _ => ?_))
      | (refine ARN.in (by omega) ?_)
      | (refine ARN.fits (by first | (apply u8_in; omega) | (apply i32_in; omega) | (apply u32_in; omega)) ?_)
      | (refine QUON.pos (by omega) ?_)
      | (refine REMN.pos (by omega) ?_)
      | (refine REMN.mk (by omega) ?_)
      | (show GETN _ _ _; refine GETN.mk (by ((repeat first | refine Heap.room_get ?_ | refine Heap.set_skip (by omega) ?_ | refine Heap.new_skip (by ((repeat first | apply Heap.nx_set | apply Heap.nx_new | apply Heap.nx_kill | apply Heap.nx_room); first | assumption | rfl)) (by omega) ?_ | refine Exd.skip (by assumption) (by omega) ?_); first | assumption | exact Heap.set_at (by omega) | exact Heap.new_at (by ((repeat first | apply Heap.nx_set | apply Heap.nx_new | apply Heap.nx_kill | apply Heap.nx_room); first | assumption | rfl)) (by omega))) ?_)
      | (show GETM _ _ _; refine GETM.mk (by ((repeat first | refine Heap.room_get ?_ | refine Heap.set_skip (by omega) ?_ | refine Heap.new_skip (by ((repeat first | apply Heap.nx_set | apply Heap.nx_new | apply Heap.nx_kill | apply Heap.nx_room); first | assumption | rfl)) (by omega) ?_ | refine Exd.skip (by assumption) (by omega) ?_); first | assumption | exact Heap.set_at (by omega) | exact Heap.new_at (by ((repeat first | apply Heap.nx_set | apply Heap.nx_new | apply Heap.nx_kill | apply Heap.nx_room); first | assumption | rfl)) (by omega))) ?_)
      | (show NEWN _ _; refine NEWN.mk (by ((repeat first | apply Heap.nx_set | apply Heap.nx_new | apply Heap.nx_kill | apply Heap.nx_room); first | assumption | rfl)) ?_)
      | (show SETN _ _ _ _ _ _; refine SETN.mk (by ((repeat first | refine Heap.room_get ?_ | refine Heap.set_skip (by omega) ?_ | refine Heap.new_skip (by ((repeat first | apply Heap.nx_set | apply Heap.nx_new | apply Heap.nx_kill | apply Heap.nx_room); first | assumption | rfl)) (by omega) ?_ | refine Exd.skip (by assumption) (by omega) ?_); first | assumption | exact Heap.set_at (by omega) | exact Heap.new_at (by ((repeat first | apply Heap.nx_set | apply Heap.nx_new | apply Heap.nx_kill | apply Heap.nx_room); first | assumption | rfl)) (by omega))) (by rfl) (by (first | decide | (simp; done) | (simp; omega))) ?_)
      | (show DOESN _ _; refine DOESN.mk (by first | rfl | omega | (simp; done) | (simp; omega)) ?_)
      | (refine BC.yes (by assumption) ?_)
      | (refine BC.no (by assumption) ?_)
      | (refine BC.split (fun _ => ?_) (fun _ => ?_))
      | (refine SOMEN.mk (by rfl) ?_)
      | (refine scopeC ?_)
      | (refine drawC0 (hist := fun _ => Heap.empty 0) rfl ?_)
      | (refine drawC (hist := fun _ => Heap.empty 0) rfl ?_)
      | (show NUMN _ _; refine NUMN.mk (by ((repeat first | apply Heap.nx_set | apply Heap.nx_new | apply Heap.nx_kill | apply Heap.nx_room); first | assumption | rfl)) ?_)
      | (show LOOKN _ _ _ _ _ _; refine LOOKN.mk (by first | exact QV.load rfl (by ((repeat first | refine Heap.room_get ?_ | refine Heap.set_skip (by omega) ?_ | refine Heap.new_skip (by ((repeat first | apply Heap.nx_set | apply Heap.nx_new | apply Heap.nx_kill | apply Heap.nx_room); first | assumption | rfl)) (by omega) ?_ | refine Exd.skip (by assumption) (by omega) ?_); first | assumption | exact Heap.set_at (by omega) | exact Heap.new_at (by ((repeat first | apply Heap.nx_set | apply Heap.nx_new | apply Heap.nx_kill | apply Heap.nx_room); first | assumption | rfl)) (by omega))) (by rfl) | exact QV.loadA rfl (by ((repeat first | refine Heap.room_get ?_ | refine Heap.set_skip (by omega) ?_ | refine Heap.new_skip (by ((repeat first | apply Heap.nx_set | apply Heap.nx_new | apply Heap.nx_kill | apply Heap.nx_room); first | assumption | rfl)) (by omega) ?_ | refine Exd.skip (by assumption) (by omega) ?_); first | assumption | exact Heap.set_at (by omega) | exact Heap.new_at (by ((repeat first | apply Heap.nx_set | apply Heap.nx_new | apply Heap.nx_kill | apply Heap.nx_room); first | assumption | rfl)) (by omega))) (by rfl) (by rfl)) ?_)
      | fail)))
  all_goals refine q1 _ ?_
  all_goals
    by_cases hi : isOp op
    · rcases isOp_cases hi with rfl | rfl | rfl | rfl | rfl | rfl | rfl | rfl | rfl | rfl | rfl | rfl | rfl | rfl | rfl | rfl | rfl | rfl | rfl | rfl | rfl | rfl | rfl | rfl | rfl | rfl | rfl | rfl | rfl | rfl | rfl | rfl | rfl | rfl | rfl | rfl | rfl | rfl <;> first | rfl | (exfalso; omega)
    · first | (unfold isOp at hi; exfalso; omega) | (rw [tabOf, if_neg hi])
set_option maxHeartbeats 4000000 in
theorem popsR_cal (q : Q (.int .i64 (tabOf opPops op)) h) : Cal tt 12 [.int .i64 op] h Q := by
  have q1 : ∀ x, tabOf opPops op = x → Q (.int .i64 x) h := fun x e => e ▸ q
  refine Cal.run rfl rfl rfl rfl ?_
  (repeat' ((conv => whnf); (first
      | (refine LTN.yes (by omega) ?_)
      | (refine LTN.no (by omega) ?_)
      | (refine LTN.mk (fun _ => ?_) (fun _ => ?_))
      | (refine EQN.yes (by omega) ?_)
      | (refine EQN.no (by omega) ?_)
      | (refine EQN.mk (fun _ => ?_) (fun _ => ?_))
      | (refine EQSN.yes (by first | rfl | assumption) ?_)
      | (refine EQSN.no (by first | decide | assumption) ?_)
      | (refine EQSN.mk (fun _ => ?_) (fun _ => ?_))
      | (refine ARN.in (by omega) ?_)
      | (refine ARN.fits (by first | (apply u8_in; omega) | (apply i32_in; omega) | (apply u32_in; omega)) ?_)
      | (refine QUON.pos (by omega) ?_)
      | (refine REMN.pos (by omega) ?_)
      | (refine REMN.mk (by omega) ?_)
      | (show GETN _ _ _; refine GETN.mk (by ((repeat first | refine Heap.room_get ?_ | refine Heap.set_skip (by omega) ?_ | refine Heap.new_skip (by ((repeat first | apply Heap.nx_set | apply Heap.nx_new | apply Heap.nx_kill | apply Heap.nx_room); first | assumption | rfl)) (by omega) ?_ | refine Exd.skip (by assumption) (by omega) ?_); first | assumption | exact Heap.set_at (by omega) | exact Heap.new_at (by ((repeat first | apply Heap.nx_set | apply Heap.nx_new | apply Heap.nx_kill | apply Heap.nx_room); first | assumption | rfl)) (by omega))) ?_)
      | (show GETM _ _ _; refine GETM.mk (by ((repeat first | refine Heap.room_get ?_ | refine Heap.set_skip (by omega) ?_ | refine Heap.new_skip (by ((repeat first | apply Heap.nx_set | apply Heap.nx_new | apply Heap.nx_kill | apply Heap.nx_room); first | assumption | rfl)) (by omega) ?_ | refine Exd.skip (by assumption) (by omega) ?_); first | assumption | exact Heap.set_at (by omega) | exact Heap.new_at (by ((repeat first | apply Heap.nx_set | apply Heap.nx_new | apply Heap.nx_kill | apply Heap.nx_room); first | assumption | rfl)) (by omega))) ?_)
      | (show NEWN _ _; refine NEWN.mk (by ((repeat first | apply Heap.nx_set | apply Heap.nx_new | apply Heap.nx_kill | apply Heap.nx_room); first | assumption | rfl)) ?_)
      | (show SETN _ _ _ _ _ _; refine SETN.mk (by ((repeat first | refine Heap.room_get ?_ | refine Heap.set_skip (by omega) ?_ | refine Heap.new_skip (by ((repeat first | apply Heap.nx_set | apply Heap.nx_new | apply Heap.nx_kill | apply Heap.nx_room); first | assumption | rfl)) (by omega) ?_ | refine Exd.skip (by assumption) (by omega) ?_); first | assumption | exact Heap.set_at (by omega) | exact Heap.new_at (by ((repeat first | apply Heap.nx_set | apply Heap.nx_new | apply Heap.nx_kill | apply Heap.nx_room); first | assumption | rfl)) (by omega))) (by rfl) (by (first | decide | (simp; done) | (simp; omega))) ?_)
      | (show DOESN _ _; refine DOESN.mk (by first | rfl | omega | (simp; done) | (simp; omega)) ?_)
      | (refine BC.yes (by assumption) ?_)
      | (refine BC.no (by assumption) ?_)
      | (refine BC.split (fun _ => ?_) (fun _ => ?_))
      | (refine SOMEN.mk (by rfl) ?_)
      | (refine scopeC ?_)
      | (refine drawC0 (hist := fun _ => Heap.empty 0) rfl ?_)
      | (refine drawC (hist := fun _ => Heap.empty 0) rfl ?_)
      | (show NUMN _ _; refine NUMN.mk (by ((repeat first | apply Heap.nx_set | apply Heap.nx_new | apply Heap.nx_kill | apply Heap.nx_room); first | assumption | rfl)) ?_)
      | (show LOOKN _ _ _ _ _ _; refine LOOKN.mk (by first | exact QV.load rfl (by ((repeat first | refine Heap.room_get ?_ | refine Heap.set_skip (by omega) ?_ | refine Heap.new_skip (by ((repeat first | apply Heap.nx_set | apply Heap.nx_new | apply Heap.nx_kill | apply Heap.nx_room); first | assumption | rfl)) (by omega) ?_ | refine Exd.skip (by assumption) (by omega) ?_); first | assumption | exact Heap.set_at (by omega) | exact Heap.new_at (by ((repeat first | apply Heap.nx_set | apply Heap.nx_new | apply Heap.nx_kill | apply Heap.nx_room); first | assumption | rfl)) (by omega))) (by rfl) | exact QV.loadA rfl (by ((repeat first | refine Heap.room_get ?_ | refine Heap.set_skip (by omega) ?_ | refine Heap.new_skip (by ((repeat first | apply Heap.nx_set | apply Heap.nx_new | apply Heap.nx_kill | apply Heap.nx_room); first | assumption | rfl)) (by omega) ?_ | refine Exd.skip (by assumption) (by omega) ?_); first | assumption | exact Heap.set_at (by omega) | exact Heap.new_at (by ((repeat first | apply Heap.nx_set | apply Heap.nx_new | apply Heap.nx_kill | apply Heap.nx_room); first | assumption | rfl)) (by omega))) (by rfl) (by rfl)) ?_)
      | fail)))
  all_goals refine q1 _ ?_
  all_goals
    by_cases hi : isOp op
    · rcases isOp_cases hi with rfl | rfl | rfl | rfl | rfl | rfl | rfl | rfl | rfl | rfl | rfl | rfl | rfl | rfl | rfl | rfl | rfl | rfl | rfl | rfl | rfl | rfl | rfl | rfl | rfl | rfl | rfl | rfl | rfl | rfl | rfl | rfl | rfl | rfl | rfl | rfl | rfl | rfl <;> first | rfl | (exfalso; omega)
    · first | (unfold isOp at hi; exfalso; omega) | (rw [tabOf, if_neg hi])
set_option maxHeartbeats 4000000 in
theorem pushesR_cal (q : Q (.int .i64 (tabOf opPushes op)) h) : Cal tt 14 [.int .i64 op] h Q := by
  have q1 : ∀ x, tabOf opPushes op = x → Q (.int .i64 x) h := fun x e => e ▸ q
  refine Cal.run rfl rfl rfl rfl ?_
  (repeat' ((conv => whnf); (first
      | (refine LTN.yes (by omega) ?_)
      | (refine LTN.no (by omega) ?_)
      | (refine LTN.mk (fun _ => ?_) (fun _ => ?_))
      | (refine EQN.yes (by omega) ?_)
      | (refine EQN.no (by omega) ?_)
      | (refine EQN.mk (fun _ => ?_) (fun _ => ?_))
      | (refine EQSN.yes (by first | rfl | assumption) ?_)
      | (refine EQSN.no (by first | decide | assumption) ?_)
      | (refine EQSN.mk (fun _ => ?_) (fun _ => ?_))
      | (refine ARN.in (by omega) ?_)
      | (refine ARN.fits (by first | (apply u8_in; omega) | (apply i32_in; omega) | (apply u32_in; omega)) ?_)
      | (refine QUON.pos (by omega) ?_)
      | (refine REMN.pos (by omega) ?_)
      | (refine REMN.mk (by omega) ?_)
      | (show GETN _ _ _; refine GETN.mk (by ((repeat first | refine Heap.room_get ?_ | refine Heap.set_skip (by omega) ?_ | refine Heap.new_skip (by ((repeat first | apply Heap.nx_set | apply Heap.nx_new | apply Heap.nx_kill | apply Heap.nx_room); first | assumption | rfl)) (by omega) ?_ | refine Exd.skip (by assumption) (by omega) ?_); first | assumption | exact Heap.set_at (by omega) | exact Heap.new_at (by ((repeat first | apply Heap.nx_set | apply Heap.nx_new | apply Heap.nx_kill | apply Heap.nx_room); first | assumption | rfl)) (by omega))) ?_)
      | (show GETM _ _ _; refine GETM.mk (by ((repeat first | refine Heap.room_get ?_ | refine Heap.set_skip (by omega) ?_ | refine Heap.new_skip (by ((repeat first | apply Heap.nx_set | apply Heap.nx_new | apply Heap.nx_kill | apply Heap.nx_room); first | assumption | rfl)) (by omega) ?_ | refine Exd.skip (by assumption) (by omega) ?_); first | assumption | exact Heap.set_at (by omega) | exact Heap.new_at (by ((repeat first | apply Heap.nx_set | apply Heap.nx_new | apply Heap.nx_kill | apply Heap.nx_room); first | assumption | rfl)) (by omega))) ?_)
      | (show NEWN _ _; refine NEWN.mk (by ((repeat first | apply Heap.nx_set | apply Heap.nx_new | apply Heap.nx_kill | apply Heap.nx_room); first | assumption | rfl)) ?_)
      | (show SETN _ _ _ _ _ _; refine SETN.mk (by ((repeat first | refine Heap.room_get ?_ | refine Heap.set_skip (by omega) ?_ | refine Heap.new_skip (by ((repeat first | apply Heap.nx_set | apply Heap.nx_new | apply Heap.nx_kill | apply Heap.nx_room); first | assumption | rfl)) (by omega) ?_ | refine Exd.skip (by assumption) (by omega) ?_); first | assumption | exact Heap.set_at (by omega) | exact Heap.new_at (by ((repeat first | apply Heap.nx_set | apply Heap.nx_new | apply Heap.nx_kill | apply Heap.nx_room); first | assumption | rfl)) (by omega))) (by rfl) (by (first | decide | (simp; done) | (simp; omega))) ?_)
      | (show DOESN _ _; refine DOESN.mk (by first | rfl | omega | (simp; done) | (simp; omega)) ?_)
      | (refine BC.yes (by assumption) ?_)
      | (refine BC.no (by assumption) ?_)
      | (refine BC.split (fun _ => ?_) (fun _ => ?_))
      | (refine SOMEN.mk (by rfl) ?_)
      | (refine scopeC ?_)
      | (refine drawC0 (hist := fun _ => Heap.empty 0) rfl ?_)
      | (refine drawC (hist := fun _ => Heap.empty 0) rfl ?_)
      | (show NUMN _ _; refine NUMN.mk (by ((repeat first | apply Heap.nx_set | apply Heap.nx_new | apply Heap.nx_kill | apply Heap.nx_room); first | assumption | rfl)) ?_)
      | (show LOOKN _ _ _ _ _ _; refine LOOKN.mk (by first | exact QV.load rfl (by ((repeat first | refine Heap.room_get ?_ | refine Heap.set_skip (by omega) ?_ | refine Heap.new_skip (by ((repeat first | apply Heap.nx_set | apply Heap.nx_new | apply Heap.nx_kill | apply Heap.nx_room); first | assumption | rfl)) (by omega) ?_ | refine Exd.skip (by assumption) (by omega) ?_); first | assumption | exact Heap.set_at (by omega) | exact Heap.new_at (by ((repeat first | apply Heap.nx_set | apply Heap.nx_new | apply Heap.nx_kill | apply Heap.nx_room); first | assumption | rfl)) (by omega))) (by rfl) | exact QV.loadA rfl (by ((repeat first | refine Heap.room_get ?_ | refine Heap.set_skip (by omega) ?_ | refine Heap.new_skip (by ((repeat first | apply Heap.nx_set | apply Heap.nx_new | apply Heap.nx_kill | apply Heap.nx_room); first | assumption | rfl)) (by omega) ?_ | refine Exd.skip (by assumption) (by omega) ?_); first | assumption | exact Heap.set_at (by omega) | exact Heap.new_at (by ((repeat first | apply Heap.nx_set | apply Heap.nx_new | apply Heap.nx_kill | apply Heap.nx_room); first | assumption | rfl)) (by omega))) (by rfl) (by rfl)) ?_)
      | fail)))
  all_goals refine q1 _ ?_
  all_goals
    by_cases hi : isOp op
    · rcases isOp_cases hi with rfl | rfl | rfl | rfl | rfl | rfl | rfl | rfl | rfl | rfl | rfl | rfl | rfl | rfl | rfl | rfl | rfl | rfl | rfl | rfl | rfl | rfl | rfl | rfl | rfl | rfl | rfl | rfl | rfl | rfl | rfl | rfl | rfl | rfl | rfl | rfl | rfl | rfl <;> first | rfl | (exfalso; omega)
    · first | (unfold isOp at hi; exfalso; omega) | (rw [tabOf, if_neg hi])

end
end Go.Proofs.YtaipbioapbgcnaaDoor.Cm
