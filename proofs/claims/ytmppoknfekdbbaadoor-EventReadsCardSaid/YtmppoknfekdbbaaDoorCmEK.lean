/-
  Event, texts: the reference's numbers.
-/
import Derived.Test.YtmppoknfekdbbaaDoorCmEJ
namespace Go.Proofs.YtmppoknfekdbbaaDoor.Cm
open Go.RowKit Go.IntWalk
attribute [local irreducible] Heap.set Heap.new Heap.kill Heap.get Heap.room Cal WP

instance (c : UInt8) : Decidable (isDig c) := by unfold isDig; infer_instance
/-- A number below 0, digit by digit. -/
def negs (n : Int) : List UInt8 → Option Int
  | [] => some n
  | c :: l => if isDig c ∧ -9223372036854775808 ≤ 10 * n - ((c.toNat : Int) - 48) then negs (10 * n - ((c.toNat : Int) - 48)) l else none
/-- The digits d, behind a sign or not; 'one': the text is "0". -/
def numD (neg one : Bool) (d : List UInt8) : Option Int := match d with
  | [] => none
  | c :: l => if 19 < (c :: l).length ∨ (c = 48 ∧ one = false) then none else match negs 0 (c :: l) with
    | none => none
    | some n => if neg then some n else if n = -9223372036854775808 then none else some (0 - n)
def refNum : List UInt8 → Option Int
  | [] => none
  | c :: r => if c = 45 then numD true false r else numD false (decide (c :: r = [48])) (c :: r)
def resNum : Option Int → CVal
  | some n => .tuple [.int .i64 n, .bool true]
  | none => .tuple [.int .i64 0, .bool false]

theorem QUON.neg {a b : Int} {K : Int → Prop} (h : -9223372036854775808 ≤ a ∧ a ≤ 0 ∧ 2 ≤ b) (k : K (-(-a / b))) : QUON .i64 a b K := by
  have e : a.tdiv b = -(-a / b) := by
    rw [← Int.tdiv_eq_ediv_of_nonneg (show 0 ≤ -a by omega), Int.neg_tdiv, Int.neg_neg]
  have d0 : 0 ≤ -a / b := Int.ediv_nonneg (by omega) (by omega)
  have d1 : -a / b ≤ -a := Int.ediv_le_self _ (by omega)
  refine ⟨by omega, ?_⟩
  rw [e, i64_in _ (by omega)]
  exact k

theorem u8_48 {b : UInt8} : b = 48 ↔ b.toNat = 48 := by rw [← UInt8.toNat_inj]; exact Iff.rfl
theorem u8_45 {b : UInt8} : b = 45 ↔ b.toNat = 45 := by rw [← UInt8.toNat_inj]; exact Iff.rfl

set_option maxHeartbeats 4000000 in
theorem num_cal {s : List UInt8} {h : Heap} {Q : CVal → Heap → Prop} (hs : s.length ≤ 1000) (k : Q (resNum (refNum s)) h) : Cal tt 26 [.str s] h Q := by
  have k0 : refNum s = none → Q (.tuple [.int .i64 0, .bool false]) h := fun e => by rw [e] at k; exact k
  have k1 : ∀ n, refNum s = some n → Q (.tuple [.int .i64 n, .bool true]) h := fun n e => by rw [e] at k; exact k
  refine Cal.run rfl rfl rfl rfl ?_
  cases s with
  | nil =>
    have l0 : ([] : List UInt8).length = 0 := rfl
    (repeat' ((conv => whnf); (first
      | (refine LTN.yes (by omega) ?_)
      | (refine LTN.no (by omega) ?_)
      | (refine LTN.mk (fun _ => ?_) (fun _ => ?_))
      | (refine EQN.yes (by omega) ?_)
      | (refine EQN.no (by omega) ?_)
      | (refine EQN.mk (fun _ => ?_) (fun _ => ?_))
      | (refine EQSN.yes (by first | rfl | assumption) ?_)
      | (refine EQSN.no (by first | decide | assumption) ?_)
      | (refine EQSN.mk (fun _ => ?_) (fun _ => ?_))
      | (refine ARN.in (by omega) ?_)
      | (refine ARN.fits (by first | (apply u8_in; omega) | (apply i32_in; omega) | (apply u32_in; omega)) ?_)
      | (refine QUON.pos (by omega) ?_)
      | (refine REMN.pos (by omega) ?_)
      | (refine REMN.mk (by omega) ?_)
      | (show GETN _ _ _; refine GETN.mk (by ((repeat first | refine Heap.room_get ?_ | refine Heap.set_skip (by omega) ?_ | refine Heap.new_skip (by ((repeat first | apply Heap.nx_set | apply Heap.nx_new | apply Heap.nx_kill | apply Heap.nx_room); first | assumption | rfl)) (by omega) ?_ | refine Exd.skip (by assumption) (by omega) ?_); first | assumption | exact Heap.set_at (by omega) | exact Heap.new_at (by ((repeat first | apply Heap.nx_set | apply Heap.nx_new | apply Heap.nx_kill | apply Heap.nx_room); first | assumption | rfl)) (by omega))) ?_)
      | (show GETM _ _ _; refine GETM.mk (by ((repeat first | refine Heap.room_get ?_ | refine Heap.set_skip (by omega) ?_ | refine Heap.new_skip (by ((repeat first | apply Heap.nx_set | apply Heap.nx_new | apply Heap.nx_kill | apply Heap.nx_room); first | assumption | rfl)) (by omega) ?_ | refine Exd.skip (by assumption) (by omega) ?_); first | assumption | exact Heap.set_at (by omega) | exact Heap.new_at (by ((repeat first | apply Heap.nx_set | apply Heap.nx_new | apply Heap.nx_kill | apply Heap.nx_room); first | assumption | rfl)) (by omega))) ?_)
      | (show NEWN _ _; refine NEWN.mk (by ((repeat first | apply Heap.nx_set | apply Heap.nx_new | apply Heap.nx_kill | apply Heap.nx_room); first | assumption | rfl)) ?_)
      | (show SETN _ _ _ _ _ _; refine SETN.mk (by ((repeat first | refine Heap.room_get ?_ | refine Heap.set_skip (by omega) ?_ | refine Heap.new_skip (by ((repeat first | apply Heap.nx_set | apply Heap.nx_new | apply Heap.nx_kill | apply Heap.nx_room); first | assumption | rfl)) (by omega) ?_ | refine Exd.skip (by assumption) (by omega) ?_); first | assumption | exact Heap.set_at (by omega) | exact Heap.new_at (by ((repeat first | apply Heap.nx_set | apply Heap.nx_new | apply Heap.nx_kill | apply Heap.nx_room); first | assumption | rfl)) (by omega))) (by rfl) (by (first | decide | (simp; done) | (simp; omega))) ?_)
      | (show DOESN _ _; refine DOESN.mk (by first | rfl | omega | (simp; done) | (simp; omega)) ?_)
      | (refine BC.yes (by assumption) ?_)
      | (refine BC.no (by assumption) ?_)
      | (refine BC.split (fun _ => ?_) (fun _ => ?_))
      | (refine SOMEN.mk (by rfl) ?_)
      | (refine scopeC ?_)
      | (refine drawC0 (hist := fun _ => Heap.empty 0) rfl ?_)
      | (refine drawC (hist := fun _ => Heap.empty 0) rfl ?_)
      | (show NUMN _ _; refine NUMN.mk (by ((repeat first | apply Heap.nx_set | apply Heap.nx_new | apply Heap.nx_kill | apply Heap.nx_room); first | assumption | rfl)) ?_)
      | (show LOOKN _ _ _ _ _ _; refine LOOKN.mk (by first | exact QV.load rfl (by ((repeat first | refine Heap.room_get ?_ | refine Heap.set_skip (by omega) ?_ | refine Heap.new_skip (by ((repeat first | apply Heap.nx_set | apply Heap.nx_new | apply Heap.nx_kill | apply Heap.nx_room); first | assumption | rfl)) (by omega) ?_ | refine Exd.skip (by assumption) (by omega) ?_); first | assumption | exact Heap.set_at (by omega) | exact Heap.new_at (by ((repeat first | apply Heap.nx_set | apply Heap.nx_new | apply Heap.nx_kill | apply Heap.nx_room); first | assumption | rfl)) (by omega))) (by rfl) | exact QV.loadA rfl (by ((repeat first | refine Heap.room_get ?_ | refine Heap.set_skip (by omega) ?_ | refine Heap.new_skip (by ((repeat first | apply Heap.nx_set | apply Heap.nx_new | apply Heap.nx_kill | apply Heap.nx_room); first | assumption | rfl)) (by omega) ?_ | refine Exd.skip (by assumption) (by omega) ?_); first | assumption | exact Heap.set_at (by omega) | exact Heap.new_at (by ((repeat first | apply Heap.nx_set | apply Heap.nx_new | apply Heap.nx_kill | apply Heap.nx_room); first | assumption | rfl)) (by omega))) (by rfl) (by rfl)) ?_)
      | fail)))
    exact k0 rfl
  | cons c r =>
    have cl := c.toNat_lt
    have l1 : (c :: r).length = r.length + 1 := rfl
    by_cases e45 : c = 45
    · subst e45
      (repeat' ((conv => whnf); (first
      | (refine EQN.yes rfl ?_)
      | (refine LTN.yes (by omega) ?_)
      | (refine LTN.no (by omega) ?_)
      | (refine LTN.mk (fun _ => ?_) (fun _ => ?_))
      | (refine EQN.yes (by omega) ?_)
      | (refine EQN.no (by omega) ?_)
      | (refine EQN.mk (fun _ => ?_) (fun _ => ?_))
      | (refine EQSN.yes (by first | rfl | assumption) ?_)
      | (refine EQSN.no (by first | decide | assumption) ?_)
      | (refine EQSN.mk (fun _ => ?_) (fun _ => ?_))
      | (refine ARN.in (by omega) ?_)
      | (refine ARN.fits (by first | (apply u8_in; omega) | (apply i32_in; omega) | (apply u32_in; omega)) ?_)
      | (refine QUON.pos (by omega) ?_)
      | (refine REMN.pos (by omega) ?_)
      | (refine REMN.mk (by omega) ?_)
      | (show GETN _ _ _; refine GETN.mk (by ((repeat first | refine Heap.room_get ?_ | refine Heap.set_skip (by omega) ?_ | refine Heap.new_skip (by ((repeat first | apply Heap.nx_set | apply Heap.nx_new | apply Heap.nx_kill | apply Heap.nx_room); first | assumption | rfl)) (by omega) ?_ | refine Exd.skip (by assumption) (by omega) ?_); first | assumption | exact Heap.set_at (by omega) | exact Heap.new_at (by ((repeat first | apply Heap.nx_set | apply Heap.nx_new | apply Heap.nx_kill | apply Heap.nx_room); first | assumption | rfl)) (by omega))) ?_)
      | (show GETM _ _ _; refine GETM.mk (by ((repeat first | refine Heap.room_get ?_ | refine Heap.set_skip (by omega) ?_ | refine Heap.new_skip (by ((repeat first | apply Heap.nx_set | apply Heap.nx_new | apply Heap.nx_kill | apply Heap.nx_room); first | assumption | rfl)) (by omega) ?_ | refine Exd.skip (by assumption) (by omega) ?_); first | assumption | exact Heap.set_at (by omega) | exact Heap.new_at (by ((repeat first | apply Heap.nx_set | apply Heap.nx_new | apply Heap.nx_kill | apply Heap.nx_room); first | assumption | rfl)) (by omega))) ?_)
      | (show NEWN _ _; refine NEWN.mk (by ((repeat first | apply Heap.nx_set | apply Heap.nx_new | apply Heap.nx_kill | apply Heap.nx_room); first | assumption | rfl)) ?_)
      | (show SETN _ _ _ _ _ _; refine SETN.mk (by ((repeat first | refine Heap.room_get ?_ | refine Heap.set_skip (by omega) ?_ | refine Heap.new_skip (by ((repeat first | apply Heap.nx_set | apply Heap.nx_new | apply Heap.nx_kill | apply Heap.nx_room); first | assumption | rfl)) (by omega) ?_ | refine Exd.skip (by assumption) (by omega) ?_); first | assumption | exact Heap.set_at (by omega) | exact Heap.new_at (by ((repeat first | apply Heap.nx_set | apply Heap.nx_new | apply Heap.nx_kill | apply Heap.nx_room); first | assumption | rfl)) (by omega))) (by rfl) (by (first | decide | (simp; done) | (simp; omega))) ?_)
      | (show DOESN _ _; refine DOESN.mk (by first | rfl | omega | (simp; done) | (simp; omega)) ?_)
      | (refine BC.yes (by assumption) ?_)
      | (refine BC.no (by assumption) ?_)
      | (refine BC.split (fun _ => ?_) (fun _ => ?_))
      | (refine SOMEN.mk (by rfl) ?_)
      | (refine scopeC ?_)
      | (refine drawC0 (hist := fun _ => Heap.empty 0) rfl ?_)
      | (refine drawC (hist := fun _ => Heap.empty 0) rfl ?_)
      | (show NUMN _ _; refine NUMN.mk (by ((repeat first | apply Heap.nx_set | apply Heap.nx_new | apply Heap.nx_kill | apply Heap.nx_room); first | assumption | rfl)) ?_)
      | (show LOOKN _ _ _ _ _ _; refine LOOKN.mk (by first | exact QV.load rfl (by ((repeat first | refine Heap.room_get ?_ | refine Heap.set_skip (by omega) ?_ | refine Heap.new_skip (by ((repeat first | apply Heap.nx_set | apply Heap.nx_new | apply Heap.nx_kill | apply Heap.nx_room); first | assumption | rfl)) (by omega) ?_ | refine Exd.skip (by assumption) (by omega) ?_); first | assumption | exact Heap.set_at (by omega) | exact Heap.new_at (by ((repeat first | apply Heap.nx_set | apply Heap.nx_new | apply Heap.nx_kill | apply Heap.nx_room); first | assumption | rfl)) (by omega))) (by rfl) | exact QV.loadA rfl (by ((repeat first | refine Heap.room_get ?_ | refine Heap.set_skip (by omega) ?_ | refine Heap.new_skip (by ((repeat first | apply Heap.nx_set | apply Heap.nx_new | apply Heap.nx_kill | apply Heap.nx_room); first | assumption | rfl)) (by omega) ?_ | refine Exd.skip (by assumption) (by omega) ?_); first | assumption | exact Heap.set_at (by omega) | exact Heap.new_at (by ((repeat first | apply Heap.nx_set | apply Heap.nx_new | apply Heap.nx_kill | apply Heap.nx_room); first | assumption | rfl)) (by omega))) (by rfl) (by rfl)) ?_)
      | fail)))
      refine SOMEN.mk (bounds1 (p := 1) rfl (by simp) (Nat.le_refl _)) ?_
      generalize hD : List.take _ (List.drop _ ((45 : UInt8) :: r)) = D
      have hD' : D = r := by rw [← hD]; simp
      subst hD'
      clear hD
      have er : refNum (45 :: D) = numD true false D := by rw [refNum, if_pos rfl]
      cases D with
      | nil =>
        have l0 : ([] : List UInt8).length = 0 := rfl
        (repeat' ((conv => whnf); (first
      | (refine LTN.yes (by omega) ?_)
      | (refine LTN.no (by omega) ?_)
      | (refine LTN.mk (fun _ => ?_) (fun _ => ?_))
      | (refine EQN.yes (by omega) ?_)
      | (refine EQN.no (by omega) ?_)
      | (refine EQN.mk (fun _ => ?_) (fun _ => ?_))
      | (refine EQSN.yes (by first | rfl | assumption) ?_)
      | (refine EQSN.no (by first | decide | assumption) ?_)
      | (refine EQSN.mk (fun _ => ?_) (fun _ => ?_))
      | (refine ARN.in (by omega) ?_)
      | (refine ARN.fits (by first | (apply u8_in; omega) | (apply i32_in; omega) | (apply u32_in; omega)) ?_)
      | (refine QUON.pos (by omega) ?_)
      | (refine REMN.pos (by omega) ?_)
      | (refine REMN.mk (by omega) ?_)
      | (show GETN _ _ _; refine GETN.mk (by ((repeat first | refine Heap.room_get ?_ | refine Heap.set_skip (by omega) ?_ | refine Heap.new_skip (by ((repeat first | apply Heap.nx_set | apply Heap.nx_new | apply Heap.nx_kill | apply Heap.nx_room); first | assumption | rfl)) (by omega) ?_ | refine Exd.skip (by assumption) (by omega) ?_); first | assumption | exact Heap.set_at (by omega) | exact Heap.new_at (by ((repeat first | apply Heap.nx_set | apply Heap.nx_new | apply Heap.nx_kill | apply Heap.nx_room); first | assumption | rfl)) (by omega))) ?_)
      | (show GETM _ _ _; refine GETM.mk (by ((repeat first | refine Heap.room_get ?_ | refine Heap.set_skip (by omega) ?_ | refine Heap.new_skip (by ((repeat first | apply Heap.nx_set | apply Heap.nx_new | apply Heap.nx_kill | apply Heap.nx_room); first | assumption | rfl)) (by omega) ?_ | refine Exd.skip (by assumption) (by omega) ?_); first | assumption | exact Heap.set_at (by omega) | exact Heap.new_at (by ((repeat first | apply Heap.nx_set | apply Heap.nx_new | apply Heap.nx_kill | apply Heap.nx_room); first | assumption | rfl)) (by omega))) ?_)
      | (show NEWN _ _; refine NEWN.mk (by ((repeat first | apply Heap.nx_set | apply Heap.nx_new | apply Heap.nx_kill | apply Heap.nx_room); first | assumption | rfl)) ?_)
      | (show SETN _ _ _ _ _ _; refine SETN.mk (by ((repeat first | refine Heap.room_get ?_ | refine Heap.set_skip (by omega) ?_ | refine Heap.new_skip (by ((repeat first | apply Heap.nx_set | apply Heap.nx_new | apply Heap.nx_kill | apply Heap.nx_room); first | assumption | rfl)) (by omega) ?_ | refine Exd.skip (by assumption) (by omega) ?_); first | assumption | exact Heap.set_at (by omega) | exact Heap.new_at (by ((repeat first | apply Heap.nx_set | apply Heap.nx_new | apply Heap.nx_kill | apply Heap.nx_room); first | assumption | rfl)) (by omega))) (by rfl) (by (first | decide | (simp; done) | (simp; omega))) ?_)
      | (show DOESN _ _; refine DOESN.mk (by first | rfl | omega | (simp; done) | (simp; omega)) ?_)
      | (refine BC.yes (by assumption) ?_)
      | (refine BC.no (by assumption) ?_)
      | (refine BC.split (fun _ => ?_) (fun _ => ?_))
      | (refine SOMEN.mk (by rfl) ?_)
      | (refine scopeC ?_)
      | (refine drawC0 (hist := fun _ => Heap.empty 0) rfl ?_)
      | (refine drawC (hist := fun _ => Heap.empty 0) rfl ?_)
      | (show NUMN _ _; refine NUMN.mk (by ((repeat first | apply Heap.nx_set | apply Heap.nx_new | apply Heap.nx_kill | apply Heap.nx_room); first | assumption | rfl)) ?_)
      | (show LOOKN _ _ _ _ _ _; refine LOOKN.mk (by first | exact QV.load rfl (by ((repeat first | refine Heap.room_get ?_ | refine Heap.set_skip (by omega) ?_ | refine Heap.new_skip (by ((repeat first | apply Heap.nx_set | apply Heap.nx_new | apply Heap.nx_kill | apply Heap.nx_room); first | assumption | rfl)) (by omega) ?_ | refine Exd.skip (by assumption) (by omega) ?_); first | assumption | exact Heap.set_at (by omega) | exact Heap.new_at (by ((repeat first | apply Heap.nx_set | apply Heap.nx_new | apply Heap.nx_kill | apply Heap.nx_room); first | assumption | rfl)) (by omega))) (by rfl) | exact QV.loadA rfl (by ((repeat first | refine Heap.room_get ?_ | refine Heap.set_skip (by omega) ?_ | refine Heap.new_skip (by ((repeat first | apply Heap.nx_set | apply Heap.nx_new | apply Heap.nx_kill | apply Heap.nx_room); first | assumption | rfl)) (by omega) ?_ | refine Exd.skip (by assumption) (by omega) ?_); first | assumption | exact Heap.set_at (by omega) | exact Heap.new_at (by ((repeat first | apply Heap.nx_set | apply Heap.nx_new | apply Heap.nx_kill | apply Heap.nx_room); first | assumption | rfl)) (by omega))) (by rfl) (by rfl)) ?_)
      | fail)))
        exact k0 rfl
      | cons c2 r2 =>
        have cl2 := c2.toNat_lt
        have l2 : (c2 :: r2).length = r2.length + 1 := rfl
        have l3 : ((45 : UInt8) :: c2 :: r2).length = (c2 :: r2).length + 1 := rfl
        by_cases h19 : 19 < (c2 :: r2).length
        · (repeat' ((conv => whnf); (first
      | (refine LTN.yes (by omega) ?_)
      | (refine LTN.yes (by omega) ?_)
      | (refine LTN.no (by omega) ?_)
      | (refine LTN.mk (fun _ => ?_) (fun _ => ?_))
      | (refine EQN.yes (by omega) ?_)
      | (refine EQN.no (by omega) ?_)
      | (refine EQN.mk (fun _ => ?_) (fun _ => ?_))
      | (refine EQSN.yes (by first | rfl | assumption) ?_)
      | (refine EQSN.no (by first | decide | assumption) ?_)
      | (refine EQSN.mk (fun _ => ?_) (fun _ => ?_))
      | (refine ARN.in (by omega) ?_)
      | (refine ARN.fits (by first | (apply u8_in; omega) | (apply i32_in; omega) | (apply u32_in; omega)) ?_)
      | (refine QUON.pos (by omega) ?_)
      | (refine REMN.pos (by omega) ?_)
      | (refine REMN.mk (by omega) ?_)
      | (show GETN _ _ _; refine GETN.mk (by ((repeat first | refine Heap.room_get ?_ | refine Heap.set_skip (by omega) ?_ | refine Heap.new_skip (by ((repeat first | apply Heap.nx_set | apply Heap.nx_new | apply Heap.nx_kill | apply Heap.nx_room); first | assumption | rfl)) (by omega) ?_ | refine Exd.skip (by assumption) (by omega) ?_); first | assumption | exact Heap.set_at (by omega) | exact Heap.new_at (by ((repeat first | apply Heap.nx_set | apply Heap.nx_new | apply Heap.nx_kill | apply Heap.nx_room); first | assumption | rfl)) (by omega))) ?_)
      | (show GETM _ _ _; refine GETM.mk (by ((repeat first | refine Heap.room_get ?_ | refine Heap.set_skip (by omega) ?_ | refine Heap.new_skip (by ((repeat first | apply Heap.nx_set | apply Heap.nx_new | apply Heap.nx_kill | apply Heap.nx_room); first | assumption | rfl)) (by omega) ?_ | refine Exd.skip (by assumption) (by omega) ?_); first | assumption | exact Heap.set_at (by omega) | exact Heap.new_at (by ((repeat first | apply Heap.nx_set | apply Heap.nx_new | apply Heap.nx_kill | apply Heap.nx_room); first | assumption | rfl)) (by omega))) ?_)
      | (show NEWN _ _; refine NEWN.mk (by ((repeat first | apply Heap.nx_set | apply Heap.nx_new | apply Heap.nx_kill | apply Heap.nx_room); first | assumption | rfl)) ?_)
      | (show SETN _ _ _ _ _ _; refine SETN.mk (by ((repeat first | refine Heap.room_get ?_ | refine Heap.set_skip (by omega) ?_ | refine Heap.new_skip (by ((repeat first | apply Heap.nx_set | apply Heap.nx_new | apply Heap.nx_kill | apply Heap.nx_room); first | assumption | rfl)) (by omega) ?_ | refine Exd.skip (by assumption) (by omega) ?_); first | assumption | exact Heap.set_at (by omega) | exact Heap.new_at (by ((repeat first | apply Heap.nx_set | apply Heap.nx_new | apply Heap.nx_kill | apply Heap.nx_room); first | assumption | rfl)) (by omega))) (by rfl) (by (first | decide | (simp; done) | (simp; omega))) ?_)
      | (show DOESN _ _; refine DOESN.mk (by first | rfl | omega | (simp; done) | (simp; omega)) ?_)
      | (refine BC.yes (by assumption) ?_)
      | (refine BC.no (by assumption) ?_)
      | (refine BC.split (fun _ => ?_) (fun _ => ?_))
      | (refine SOMEN.mk (by rfl) ?_)
      | (refine scopeC ?_)
      | (refine drawC0 (hist := fun _ => Heap.empty 0) rfl ?_)
      | (refine drawC (hist := fun _ => Heap.empty 0) rfl ?_)
      | (show NUMN _ _; refine NUMN.mk (by ((repeat first | apply Heap.nx_set | apply Heap.nx_new | apply Heap.nx_kill | apply Heap.nx_room); first | assumption | rfl)) ?_)
      | (show LOOKN _ _ _ _ _ _; refine LOOKN.mk (by first | exact QV.load rfl (by ((repeat first | refine Heap.room_get ?_ | refine Heap.set_skip (by omega) ?_ | refine Heap.new_skip (by ((repeat first | apply Heap.nx_set | apply Heap.nx_new | apply Heap.nx_kill | apply Heap.nx_room); first | assumption | rfl)) (by omega) ?_ | refine Exd.skip (by assumption) (by omega) ?_); first | assumption | exact Heap.set_at (by omega) | exact Heap.new_at (by ((repeat first | apply Heap.nx_set | apply Heap.nx_new | apply Heap.nx_kill | apply Heap.nx_room); first | assumption | rfl)) (by omega))) (by rfl) | exact QV.loadA rfl (by ((repeat first | refine Heap.room_get ?_ | refine Heap.set_skip (by omega) ?_ | refine Heap.new_skip (by ((repeat first | apply Heap.nx_set | apply Heap.nx_new | apply Heap.nx_kill | apply Heap.nx_room); first | assumption | rfl)) (by omega) ?_ | refine Exd.skip (by assumption) (by omega) ?_); first | assumption | exact Heap.set_at (by omega) | exact Heap.new_at (by ((repeat first | apply Heap.nx_set | apply Heap.nx_new | apply Heap.nx_kill | apply Heap.nx_room); first | assumption | rfl)) (by omega))) (by rfl) (by rfl)) ?_)
      | fail)))
          exact k0 (er.trans (by rw [numD, if_pos (.inl h19)]))
        by_cases h48 : c2 = 48
        · have h48' := u8_48.1 h48
          (repeat' ((conv => whnf); (first
      | (refine LTN.no (by omega) ?_)
      | (refine EQSN.no (fun h => absurd (List.cons.inj h).1 (by decide)) ?_)
      | (refine LTN.yes (by omega) ?_)
      | (refine LTN.no (by omega) ?_)
      | (refine LTN.mk (fun _ => ?_) (fun _ => ?_))
      | (refine EQN.yes (by omega) ?_)
      | (refine EQN.no (by omega) ?_)
      | (refine EQN.mk (fun _ => ?_) (fun _ => ?_))
      | (refine EQSN.yes (by first | rfl | assumption) ?_)
      | (refine EQSN.no (by first | decide | assumption) ?_)
      | (refine EQSN.mk (fun _ => ?_) (fun _ => ?_))
      | (refine ARN.in (by omega) ?_)
      | (refine ARN.fits (by first | (apply u8_in; omega) | (apply i32_in; omega) | (apply u32_in; omega)) ?_)
      | (refine QUON.pos (by omega) ?_)
      | (refine REMN.pos (by omega) ?_)
      | (refine REMN.mk (by omega) ?_)
      | (show GETN _ _ _; refine GETN.mk (by ((repeat first | refine Heap.room_get ?_ | refine Heap.set_skip (by omega) ?_ | refine Heap.new_skip (by ((repeat first | apply Heap.nx_set | apply Heap.nx_new | apply Heap.nx_kill | apply Heap.nx_room); first | assumption | rfl)) (by omega) ?_ | refine Exd.skip (by assumption) (by omega) ?_); first | assumption | exact Heap.set_at (by omega) | exact Heap.new_at (by ((repeat first | apply Heap.nx_set | apply Heap.nx_new | apply Heap.nx_kill | apply Heap.nx_room); first | assumption | rfl)) (by omega))) ?_)
      | (show GETM _ _ _; refine GETM.mk (by ((repeat first | refine Heap.room_get ?_ | refine Heap.set_skip (by omega) ?_ | refine Heap.new_skip (by ((repeat first | apply Heap.nx_set | apply Heap.nx_new | apply Heap.nx_kill | apply Heap.nx_room); first | assumption | rfl)) (by omega) ?_ | refine Exd.skip (by assumption) (by omega) ?_); first | assumption | exact Heap.set_at (by omega) | exact Heap.new_at (by ((repeat first | apply Heap.nx_set | apply Heap.nx_new | apply Heap.nx_kill | apply Heap.nx_room); first | assumption | rfl)) (by omega))) ?_)
      | (show NEWN _ _; refine NEWN.mk (by ((repeat first | apply Heap.nx_set | apply Heap.nx_new | apply Heap.nx_kill | apply Heap.nx_room); first | assumption | rfl)) ?_)
      | (show SETN _ _ _ _ _ _; refine SETN.mk (by ((repeat first | refine Heap.room_get ?_ | refine Heap.set_skip (by omega) ?_ | refine Heap.new_skip (by ((repeat first | apply Heap.nx_set | apply Heap.nx_new | apply Heap.nx_kill | apply Heap.nx_room); first | assumption | rfl)) (by omega) ?_ | refine Exd.skip (by assumption) (by omega) ?_); first | assumption | exact Heap.set_at (by omega) | exact Heap.new_at (by ((repeat first | apply Heap.nx_set | apply Heap.nx_new | apply Heap.nx_kill | apply Heap.nx_room); first | assumption | rfl)) (by omega))) (by rfl) (by (first | decide | (simp; done) | (simp; omega))) ?_)
      | (show DOESN _ _; refine DOESN.mk (by first | rfl | omega | (simp; done) | (simp; omega)) ?_)
      | (refine BC.yes (by assumption) ?_)
      | (refine BC.no (by assumption) ?_)
      | (refine BC.split (fun _ => ?_) (fun _ => ?_))
      | (refine SOMEN.mk (by rfl) ?_)
      | (refine scopeC ?_)
      | (refine drawC0 (hist := fun _ => Heap.empty 0) rfl ?_)
      | (refine drawC (hist := fun _ => Heap.empty 0) rfl ?_)
      | (show NUMN _ _; refine NUMN.mk (by ((repeat first | apply Heap.nx_set | apply Heap.nx_new | apply Heap.nx_kill | apply Heap.nx_room); first | assumption | rfl)) ?_)
      | (show LOOKN _ _ _ _ _ _; refine LOOKN.mk (by first | exact QV.load rfl (by ((repeat first | refine Heap.room_get ?_ | refine Heap.set_skip (by omega) ?_ | refine Heap.new_skip (by ((repeat first | apply Heap.nx_set | apply Heap.nx_new | apply Heap.nx_kill | apply Heap.nx_room); first | assumption | rfl)) (by omega) ?_ | refine Exd.skip (by assumption) (by omega) ?_); first | assumption | exact Heap.set_at (by omega) | exact Heap.new_at (by ((repeat first | apply Heap.nx_set | apply Heap.nx_new | apply Heap.nx_kill | apply Heap.nx_room); first | assumption | rfl)) (by omega))) (by rfl) | exact QV.loadA rfl (by ((repeat first | refine Heap.room_get ?_ | refine Heap.set_skip (by omega) ?_ | refine Heap.new_skip (by ((repeat first | apply Heap.nx_set | apply Heap.nx_new | apply Heap.nx_kill | apply Heap.nx_room); first | assumption | rfl)) (by omega) ?_ | refine Exd.skip (by assumption) (by omega) ?_); first | assumption | exact Heap.set_at (by omega) | exact Heap.new_at (by ((repeat first | apply Heap.nx_set | apply Heap.nx_new | apply Heap.nx_kill | apply Heap.nx_room); first | assumption | rfl)) (by omega))) (by rfl) (by rfl)) ?_)
      | fail)))
          exact k0 (er.trans (by rw [numD, if_pos (.inr ⟨h48, rfl⟩)]))
        have h48' : c2.toNat ≠ 48 := fun e => h48 (u8_48.2 e)
        have e1 : numD true false (c2 :: r2) = match negs 0 (c2 :: r2) with
          | none => none
          | some n => if true then some n else if n = -9223372036854775808 then none else some (0 - n) := by rw [numD, if_neg (by rintro (h | ⟨h, _⟩); exact h19 h; exact h48 h)]
        (repeat' ((conv => whnf); (first
      | (refine LTN.no (by omega) ?_)
      | (refine LTN.yes (by omega) ?_)
      | (refine LTN.no (by omega) ?_)
      | (refine LTN.mk (fun _ => ?_) (fun _ => ?_))
      | (refine EQN.yes (by omega) ?_)
      | (refine EQN.no (by omega) ?_)
      | (refine EQN.mk (fun _ => ?_) (fun _ => ?_))
      | (refine EQSN.yes (by first | rfl | assumption) ?_)
      | (refine EQSN.no (by first | decide | assumption) ?_)
      | (refine EQSN.mk (fun _ => ?_) (fun _ => ?_))
      | (refine ARN.in (by omega) ?_)
      | (refine ARN.fits (by first | (apply u8_in; omega) | (apply i32_in; omega) | (apply u32_in; omega)) ?_)
      | (refine QUON.pos (by omega) ?_)
      | (refine REMN.pos (by omega) ?_)
      | (refine REMN.mk (by omega) ?_)
      | (show GETN _ _ _; refine GETN.mk (by ((repeat first | refine Heap.room_get ?_ | refine Heap.set_skip (by omega) ?_ | refine Heap.new_skip (by ((repeat first | apply Heap.nx_set | apply Heap.nx_new | apply Heap.nx_kill | apply Heap.nx_room); first | assumption | rfl)) (by omega) ?_ | refine Exd.skip (by assumption) (by omega) ?_); first | assumption | exact Heap.set_at (by omega) | exact Heap.new_at (by ((repeat first | apply Heap.nx_set | apply Heap.nx_new | apply Heap.nx_kill | apply Heap.nx_room); first | assumption | rfl)) (by omega))) ?_)
      | (show GETM _ _ _; refine GETM.mk (by ((repeat first | refine Heap.room_get ?_ | refine Heap.set_skip (by omega) ?_ | refine Heap.new_skip (by ((repeat first | apply Heap.nx_set | apply Heap.nx_new | apply Heap.nx_kill | apply Heap.nx_room); first | assumption | rfl)) (by omega) ?_ | refine Exd.skip (by assumption) (by omega) ?_); first | assumption | exact Heap.set_at (by omega) | exact Heap.new_at (by ((repeat first | apply Heap.nx_set | apply Heap.nx_new | apply Heap.nx_kill | apply Heap.nx_room); first | assumption | rfl)) (by omega))) ?_)
      | (show NEWN _ _; refine NEWN.mk (by ((repeat first | apply Heap.nx_set | apply Heap.nx_new | apply Heap.nx_kill | apply Heap.nx_room); first | assumption | rfl)) ?_)
      | (show SETN _ _ _ _ _ _; refine SETN.mk (by ((repeat first | refine Heap.room_get ?_ | refine Heap.set_skip (by omega) ?_ | refine Heap.new_skip (by ((repeat first | apply Heap.nx_set | apply Heap.nx_new | apply Heap.nx_kill | apply Heap.nx_room); first | assumption | rfl)) (by omega) ?_ | refine Exd.skip (by assumption) (by omega) ?_); first | assumption | exact Heap.set_at (by omega) | exact Heap.new_at (by ((repeat first | apply Heap.nx_set | apply Heap.nx_new | apply Heap.nx_kill | apply Heap.nx_room); first | assumption | rfl)) (by omega))) (by rfl) (by (first | decide | (simp; done) | (simp; omega))) ?_)
      | (show DOESN _ _; refine DOESN.mk (by first | rfl | omega | (simp; done) | (simp; omega)) ?_)
      | (refine BC.yes (by assumption) ?_)
      | (refine BC.no (by assumption) ?_)
      | (refine BC.split (fun _ => ?_) (fun _ => ?_))
      | (refine SOMEN.mk (by rfl) ?_)
      | (refine scopeC ?_)
      | (refine drawC0 (hist := fun _ => Heap.empty 0) rfl ?_)
      | (refine drawC (hist := fun _ => Heap.empty 0) rfl ?_)
      | (show NUMN _ _; refine NUMN.mk (by ((repeat first | apply Heap.nx_set | apply Heap.nx_new | apply Heap.nx_kill | apply Heap.nx_room); first | assumption | rfl)) ?_)
      | (show LOOKN _ _ _ _ _ _; refine LOOKN.mk (by first | exact QV.load rfl (by ((repeat first | refine Heap.room_get ?_ | refine Heap.set_skip (by omega) ?_ | refine Heap.new_skip (by ((repeat first | apply Heap.nx_set | apply Heap.nx_new | apply Heap.nx_kill | apply Heap.nx_room); first | assumption | rfl)) (by omega) ?_ | refine Exd.skip (by assumption) (by omega) ?_); first | assumption | exact Heap.set_at (by omega) | exact Heap.new_at (by ((repeat first | apply Heap.nx_set | apply Heap.nx_new | apply Heap.nx_kill | apply Heap.nx_room); first | assumption | rfl)) (by omega))) (by rfl) | exact QV.loadA rfl (by ((repeat first | refine Heap.room_get ?_ | refine Heap.set_skip (by omega) ?_ | refine Heap.new_skip (by ((repeat first | apply Heap.nx_set | apply Heap.nx_new | apply Heap.nx_kill | apply Heap.nx_room); first | assumption | rfl)) (by omega) ?_ | refine Exd.skip (by assumption) (by omega) ?_); first | assumption | exact Heap.set_at (by omega) | exact Heap.new_at (by ((repeat first | apply Heap.nx_set | apply Heap.nx_new | apply Heap.nx_kill | apply Heap.nx_room); first | assumption | rfl)) (by omega))) (by rfl) (by rfl)) ?_)
      | fail)))
        refine loopC (fun x : Nat × Int => [(0, .str (45 :: c2 :: r2)), (4, .str (c2 :: r2)), (5, .int .i64 x.2), (6, .int .i64 x.1)]) (fun x h' => h' = h ∧ x.1 ≤ (c2 :: r2).length ∧ -9223372036854775808 ≤ x.2 ∧ x.2 ≤ 0 ∧ negs 0 (c2 :: r2) = negs x.2 ((c2 :: r2).drop x.1)) (fun x => (c2 :: r2).length - x.1) (0, 0) ⟨rfl, rfl, rfl, rfl, trivial⟩ ⟨rfl, Nat.zero_le _, by show (-9223372036854775808 : Int) ≤ 0; omega, Int.le_refl 0, rfl⟩ ?_
        rintro ⟨i, n⟩ ρ h' ⟨rfl, hi, n0, n1, hn⟩
        simp only at hi n0 n1 hn
        by_cases hl : i < (c2 :: r2).length
        rotate_left
        · have e0 : negs 0 (c2 :: r2) = some n := by rw [hn, List.drop_eq_nil_of_le (by omega), negs]
          (repeat' ((conv => whnf); (first
      | (refine LTN.yes (by omega) ?_)
      | (refine LTN.no (by omega) ?_)
      | (refine LTN.mk (fun _ => ?_) (fun _ => ?_))
      | (refine EQN.yes (by omega) ?_)
      | (refine EQN.no (by omega) ?_)
      | (refine EQN.mk (fun _ => ?_) (fun _ => ?_))
      | (refine EQSN.yes (by first | rfl | assumption) ?_)
      | (refine EQSN.no (by first | decide | assumption) ?_)
      | (refine EQSN.mk (fun _ => ?_) (fun _ => ?_))
      | (refine ARN.in (by omega) ?_)
      | (refine ARN.fits (by first | (apply u8_in; omega) | (apply i32_in; omega) | (apply u32_in; omega)) ?_)
      | (refine QUON.pos (by omega) ?_)
      | (refine REMN.pos (by omega) ?_)
      | (refine REMN.mk (by omega) ?_)
      | (show GETN _ _ _; refine GETN.mk (by ((repeat first | refine Heap.room_get ?_ | refine Heap.set_skip (by omega) ?_ | refine Heap.new_skip (by ((repeat first | apply Heap.nx_set | apply Heap.nx_new | apply Heap.nx_kill | apply Heap.nx_room); first | assumption | rfl)) (by omega) ?_ | refine Exd.skip (by assumption) (by omega) ?_); first | assumption | exact Heap.set_at (by omega) | exact Heap.new_at (by ((repeat first | apply Heap.nx_set | apply Heap.nx_new | apply Heap.nx_kill | apply Heap.nx_room); first | assumption | rfl)) (by omega))) ?_)
      | (show GETM _ _ _; refine GETM.mk (by ((repeat first | refine Heap.room_get ?_ | refine Heap.set_skip (by omega) ?_ | refine Heap.new_skip (by ((repeat first | apply Heap.nx_set | apply Heap.nx_new | apply Heap.nx_kill | apply Heap.nx_room); first | assumption | rfl)) (by omega) ?_ | refine Exd.skip (by assumption) (by omega) ?_); first | assumption | exact Heap.set_at (by omega) | exact Heap.new_at (by ((repeat first | apply Heap.nx_set | apply Heap.nx_new | apply Heap.nx_kill | apply Heap.nx_room); first | assumption | rfl)) (by omega))) ?_)
      | (show NEWN _ _; refine NEWN.mk (by ((repeat first | apply Heap.nx_set | apply Heap.nx_new | apply Heap.nx_kill | apply Heap.nx_room); first | assumption | rfl)) ?_)
      | (show SETN _ _ _ _ _ _; refine SETN.mk (by ((repeat first | refine Heap.room_get ?_ | refine Heap.set_skip (by omega) ?_ | refine Heap.new_skip (by ((repeat first | apply Heap.nx_set | apply Heap.nx_new | apply Heap.nx_kill | apply Heap.nx_room); first | assumption | rfl)) (by omega) ?_ | refine Exd.skip (by assumption) (by omega) ?_); first | assumption | exact Heap.set_at (by omega) | exact Heap.new_at (by ((repeat first | apply Heap.nx_set | apply Heap.nx_new | apply Heap.nx_kill | apply Heap.nx_room); first | assumption | rfl)) (by omega))) (by rfl) (by (first | decide | (simp; done) | (simp; omega))) ?_)
      | (show DOESN _ _; refine DOESN.mk (by first | rfl | omega | (simp; done) | (simp; omega)) ?_)
      | (refine BC.yes (by assumption) ?_)
      | (refine BC.no (by assumption) ?_)
      | (refine BC.split (fun _ => ?_) (fun _ => ?_))
      | (refine SOMEN.mk (by rfl) ?_)
      | (refine scopeC ?_)
      | (refine drawC0 (hist := fun _ => Heap.empty 0) rfl ?_)
      | (refine drawC (hist := fun _ => Heap.empty 0) rfl ?_)
      | (show NUMN _ _; refine NUMN.mk (by ((repeat first | apply Heap.nx_set | apply Heap.nx_new | apply Heap.nx_kill | apply Heap.nx_room); first | assumption | rfl)) ?_)
      | (show LOOKN _ _ _ _ _ _; refine LOOKN.mk (by first | exact QV.load rfl (by ((repeat first | refine Heap.room_get ?_ | refine Heap.set_skip (by omega) ?_ | refine Heap.new_skip (by ((repeat first | apply Heap.nx_set | apply Heap.nx_new | apply Heap.nx_kill | apply Heap.nx_room); first | assumption | rfl)) (by omega) ?_ | refine Exd.skip (by assumption) (by omega) ?_); first | assumption | exact Heap.set_at (by omega) | exact Heap.new_at (by ((repeat first | apply Heap.nx_set | apply Heap.nx_new | apply Heap.nx_kill | apply Heap.nx_room); first | assumption | rfl)) (by omega))) (by rfl) | exact QV.loadA rfl (by ((repeat first | refine Heap.room_get ?_ | refine Heap.set_skip (by omega) ?_ | refine Heap.new_skip (by ((repeat first | apply Heap.nx_set | apply Heap.nx_new | apply Heap.nx_kill | apply Heap.nx_room); first | assumption | rfl)) (by omega) ?_ | refine Exd.skip (by assumption) (by omega) ?_); first | assumption | exact Heap.set_at (by omega) | exact Heap.new_at (by ((repeat first | apply Heap.nx_set | apply Heap.nx_new | apply Heap.nx_kill | apply Heap.nx_room); first | assumption | rfl)) (by omega))) (by rfl) (by rfl)) ?_)
      | fail)))
          exact k1 n (er.trans (by rw [e1, e0]; rfl))
        have hu := ((c2 :: r2)[i]).toNat_lt
        have hn' : negs 0 (c2 :: r2) = if isDig (c2 :: r2)[i] ∧ -9223372036854775808 ≤ 10 * n - ((((c2 :: r2)[i]).toNat : Int) - 48) then negs (10 * n - ((((c2 :: r2)[i]).toNat : Int) - 48)) ((c2 :: r2).drop (i + 1)) else none := by rw [hn, List.drop_eq_getElem_cons hl, negs]
        have si : (c2 :: r2)[(i : Int).toNat]? = some (c2 :: r2)[i] := by rw [Int.toNat_natCast, List.getElem?_eq_getElem hl]
        unfold isDig at hn'
        generalize (c2 :: r2)[i] = q at hu hn' si
        (repeat' ((conv => whnf); (first
      | (refine SOMEN.mk si ?_)
      | (refine QUON.neg (by omega) ?_)
      | (refine LTN.yes (by omega) ?_)
      | (refine LTN.no (by omega) ?_)
      | (refine LTN.mk (fun _ => ?_) (fun _ => ?_))
      | (refine EQN.yes (by omega) ?_)
      | (refine EQN.no (by omega) ?_)
      | (refine EQN.mk (fun _ => ?_) (fun _ => ?_))
      | (refine EQSN.yes (by first | rfl | assumption) ?_)
      | (refine EQSN.no (by first | decide | assumption) ?_)
      | (refine EQSN.mk (fun _ => ?_) (fun _ => ?_))
      | (refine ARN.in (by omega) ?_)
      | (refine ARN.fits (by first | (apply u8_in; omega) | (apply i32_in; omega) | (apply u32_in; omega)) ?_)
      | (refine QUON.pos (by omega) ?_)
      | (refine REMN.pos (by omega) ?_)
      | (refine REMN.mk (by omega) ?_)
      | (show GETN _ _ _; refine GETN.mk (by ((repeat first | refine Heap.room_get ?_ | refine Heap.set_skip (by omega) ?_ | refine Heap.new_skip (by ((repeat first | apply Heap.nx_set | apply Heap.nx_new | apply Heap.nx_kill | apply Heap.nx_room); first | assumption | rfl)) (by omega) ?_ | refine Exd.skip (by assumption) (by omega) ?_); first | assumption | exact Heap.set_at (by omega) | exact Heap.new_at (by ((repeat first | apply Heap.nx_set | apply Heap.nx_new | apply Heap.nx_kill | apply Heap.nx_room); first | assumption | rfl)) (by omega))) ?_)
      | (show GETM _ _ _; refine GETM.mk (by ((repeat first | refine Heap.room_get ?_ | refine Heap.set_skip (by omega) ?_ | refine Heap.new_skip (by ((repeat first | apply Heap.nx_set | apply Heap.nx_new | apply Heap.nx_kill | apply Heap.nx_room); first | assumption | rfl)) (by omega) ?_ | refine Exd.skip (by assumption) (by omega) ?_); first | assumption | exact Heap.set_at (by omega) | exact Heap.new_at (by ((repeat first | apply Heap.nx_set | apply Heap.nx_new | apply Heap.nx_kill | apply Heap.nx_room); first | assumption | rfl)) (by omega))) ?_)
      | (show NEWN _ _; refine NEWN.mk (by ((repeat first | apply Heap.nx_set | apply Heap.nx_new | apply Heap.nx_kill | apply Heap.nx_room); first | assumption | rfl)) ?_)
      | (show SETN _ _ _ _ _ _; refine SETN.mk (by ((repeat first | refine Heap.room_get ?_ | refine Heap.set_skip (by omega) ?_ | refine Heap.new_skip (by ((repeat first | apply Heap.nx_set | apply Heap.nx_new | apply Heap.nx_kill | apply Heap.nx_room); first | assumption | rfl)) (by omega) ?_ | refine Exd.skip (by assumption) (by omega) ?_); first | assumption | exact Heap.set_at (by omega) | exact Heap.new_at (by ((repeat first | apply Heap.nx_set | apply Heap.nx_new | apply Heap.nx_kill | apply Heap.nx_room); first | assumption | rfl)) (by omega))) (by rfl) (by (first | decide | (simp; done) | (simp; omega))) ?_)
      | (show DOESN _ _; refine DOESN.mk (by first | rfl | omega | (simp; done) | (simp; omega)) ?_)
      | (refine BC.yes (by assumption) ?_)
      | (refine BC.no (by assumption) ?_)
      | (refine BC.split (fun _ => ?_) (fun _ => ?_))
      | (refine SOMEN.mk (by rfl) ?_)
      | (refine scopeC ?_)
      | (refine drawC0 (hist := fun _ => Heap.empty 0) rfl ?_)
      | (refine drawC (hist := fun _ => Heap.empty 0) rfl ?_)
      | (show NUMN _ _; refine NUMN.mk (by ((repeat first | apply Heap.nx_set | apply Heap.nx_new | apply Heap.nx_kill | apply Heap.nx_room); first | assumption | rfl)) ?_)
      | (show LOOKN _ _ _ _ _ _; refine LOOKN.mk (by first | exact QV.load rfl (by ((repeat first | refine Heap.room_get ?_ | refine Heap.set_skip (by omega) ?_ | refine Heap.new_skip (by ((repeat first | apply Heap.nx_set | apply Heap.nx_new | apply Heap.nx_kill | apply Heap.nx_room); first | assumption | rfl)) (by omega) ?_ | refine Exd.skip (by assumption) (by omega) ?_); first | assumption | exact Heap.set_at (by omega) | exact Heap.new_at (by ((repeat first | apply Heap.nx_set | apply Heap.nx_new | apply Heap.nx_kill | apply Heap.nx_room); first | assumption | rfl)) (by omega))) (by rfl) | exact QV.loadA rfl (by ((repeat first | refine Heap.room_get ?_ | refine Heap.set_skip (by omega) ?_ | refine Heap.new_skip (by ((repeat first | apply Heap.nx_set | apply Heap.nx_new | apply Heap.nx_kill | apply Heap.nx_room); first | assumption | rfl)) (by omega) ?_ | refine Exd.skip (by assumption) (by omega) ?_); first | assumption | exact Heap.set_at (by omega) | exact Heap.new_at (by ((repeat first | apply Heap.nx_set | apply Heap.nx_new | apply Heap.nx_kill | apply Heap.nx_room); first | assumption | rfl)) (by omega))) (by rfl) (by rfl)) ?_)
      | fail)))
        all_goals first
          | exact k0 (er.trans (by rw [e1, hn', if_neg (by omega)]))
          | (refine ⟨rfl, (i + 1, 10 * n - ((q.toNat : Int) - 48)), ⟨rfl, rfl, rfl, rfl, trivial⟩, ⟨rfl, ?_, ?_, ?_, ?_⟩, ?_⟩
             · show i + 1 ≤ (c2 :: r2).length; omega
             · show -9223372036854775808 ≤ 10 * n - ((q.toNat : Int) - 48); omega
             · show 10 * n - ((q.toNat : Int) - 48) ≤ 0; omega
             · show negs 0 (c2 :: r2) = negs (10 * n - ((q.toNat : Int) - 48)) ((c2 :: r2).drop (i + 1)); rw [hn', if_pos (by omega)]
             · show (c2 :: r2).length - (i + 1) < (c2 :: r2).length - i; omega)
    · have e45' : c.toNat ≠ 45 := fun e => e45 (u8_45.2 e)
      have er : refNum (c :: r) = numD false (decide (c :: r = [48])) (c :: r) := by rw [refNum, if_neg e45]
      by_cases h19 : 19 < (c :: r).length
      · (repeat' ((conv => whnf); (first
      | (refine LTN.yes (by omega) ?_)
      | (refine LTN.yes (by omega) ?_)
      | (refine LTN.no (by omega) ?_)
      | (refine LTN.mk (fun _ => ?_) (fun _ => ?_))
      | (refine EQN.yes (by omega) ?_)
      | (refine EQN.no (by omega) ?_)
      | (refine EQN.mk (fun _ => ?_) (fun _ => ?_))
      | (refine EQSN.yes (by first | rfl | assumption) ?_)
      | (refine EQSN.no (by first | decide | assumption) ?_)
      | (refine EQSN.mk (fun _ => ?_) (fun _ => ?_))
      | (refine ARN.in (by omega) ?_)
      | (refine ARN.fits (by first | (apply u8_in; omega) | (apply i32_in; omega) | (apply u32_in; omega)) ?_)
      | (refine QUON.pos (by omega) ?_)
      | (refine REMN.pos (by omega) ?_)
      | (refine REMN.mk (by omega) ?_)
      | (show GETN _ _ _; refine GETN.mk (by ((repeat first | refine Heap.room_get ?_ | refine Heap.set_skip (by omega) ?_ | refine Heap.new_skip (by ((repeat first | apply Heap.nx_set | apply Heap.nx_new | apply Heap.nx_kill | apply Heap.nx_room); first | assumption | rfl)) (by omega) ?_ | refine Exd.skip (by assumption) (by omega) ?_); first | assumption | exact Heap.set_at (by omega) | exact Heap.new_at (by ((repeat first | apply Heap.nx_set | apply Heap.nx_new | apply Heap.nx_kill | apply Heap.nx_room); first | assumption | rfl)) (by omega))) ?_)
      | (show GETM _ _ _; refine GETM.mk (by ((repeat first | refine Heap.room_get ?_ | refine Heap.set_skip (by omega) ?_ | refine Heap.new_skip (by ((repeat first | apply Heap.nx_set | apply Heap.nx_new | apply Heap.nx_kill | apply Heap.nx_room); first | assumption | rfl)) (by omega) ?_ | refine Exd.skip (by assumption) (by omega) ?_); first | assumption | exact Heap.set_at (by omega) | exact Heap.new_at (by ((repeat first | apply Heap.nx_set | apply Heap.nx_new | apply Heap.nx_kill | apply Heap.nx_room); first | assumption | rfl)) (by omega))) ?_)
      | (show NEWN _ _; refine NEWN.mk (by ((repeat first | apply Heap.nx_set | apply Heap.nx_new | apply Heap.nx_kill | apply Heap.nx_room); first | assumption | rfl)) ?_)
      | (show SETN _ _ _ _ _ _; refine SETN.mk (by ((repeat first | refine Heap.room_get ?_ | refine Heap.set_skip (by omega) ?_ | refine Heap.new_skip (by ((repeat first | apply Heap.nx_set | apply Heap.nx_new | apply Heap.nx_kill | apply Heap.nx_room); first | assumption | rfl)) (by omega) ?_ | refine Exd.skip (by assumption) (by omega) ?_); first | assumption | exact Heap.set_at (by omega) | exact Heap.new_at (by ((repeat first | apply Heap.nx_set | apply Heap.nx_new | apply Heap.nx_kill | apply Heap.nx_room); first | assumption | rfl)) (by omega))) (by rfl) (by (first | decide | (simp; done) | (simp; omega))) ?_)
      | (show DOESN _ _; refine DOESN.mk (by first | rfl | omega | (simp; done) | (simp; omega)) ?_)
      | (refine BC.yes (by assumption) ?_)
      | (refine BC.no (by assumption) ?_)
      | (refine BC.split (fun _ => ?_) (fun _ => ?_))
      | (refine SOMEN.mk (by rfl) ?_)
      | (refine scopeC ?_)
      | (refine drawC0 (hist := fun _ => Heap.empty 0) rfl ?_)
      | (refine drawC (hist := fun _ => Heap.empty 0) rfl ?_)
      | (show NUMN _ _; refine NUMN.mk (by ((repeat first | apply Heap.nx_set | apply Heap.nx_new | apply Heap.nx_kill | apply Heap.nx_room); first | assumption | rfl)) ?_)
      | (show LOOKN _ _ _ _ _ _; refine LOOKN.mk (by first | exact QV.load rfl (by ((repeat first | refine Heap.room_get ?_ | refine Heap.set_skip (by omega) ?_ | refine Heap.new_skip (by ((repeat first | apply Heap.nx_set | apply Heap.nx_new | apply Heap.nx_kill | apply Heap.nx_room); first | assumption | rfl)) (by omega) ?_ | refine Exd.skip (by assumption) (by omega) ?_); first | assumption | exact Heap.set_at (by omega) | exact Heap.new_at (by ((repeat first | apply Heap.nx_set | apply Heap.nx_new | apply Heap.nx_kill | apply Heap.nx_room); first | assumption | rfl)) (by omega))) (by rfl) | exact QV.loadA rfl (by ((repeat first | refine Heap.room_get ?_ | refine Heap.set_skip (by omega) ?_ | refine Heap.new_skip (by ((repeat first | apply Heap.nx_set | apply Heap.nx_new | apply Heap.nx_kill | apply Heap.nx_room); first | assumption | rfl)) (by omega) ?_ | refine Exd.skip (by assumption) (by omega) ?_); first | assumption | exact Heap.set_at (by omega) | exact Heap.new_at (by ((repeat first | apply Heap.nx_set | apply Heap.nx_new | apply Heap.nx_kill | apply Heap.nx_room); first | assumption | rfl)) (by omega))) (by rfl) (by rfl)) ?_)
      | fail)))
        exact k0 (er.trans (by rw [numD, if_pos (.inl h19)]))
      have e1 : (c = 48 → c :: r = [48]) → numD false (decide (c :: r = [48])) (c :: r) = match negs 0 (c :: r) with
        | none => none
        | some n => if false then some n else if n = -9223372036854775808 then none else some (0 - n) := fun hh => by rw [numD, if_neg (by rintro (h | ⟨h, h'⟩); exact h19 h; rw [decide_eq_true (hh h)] at h'; simp at h')]
      by_cases h48 : c = 48
      · have h48' := u8_48.1 h48
        by_cases hz : c :: r = [48]
        · have e1 := e1 fun _ => hz
          (repeat' ((conv => whnf); (first
      | (refine LTN.no (by omega) ?_)
      | (refine EQSN.yes hz ?_)
      | (refine LTN.yes (by omega) ?_)
      | (refine LTN.no (by omega) ?_)
      | (refine LTN.mk (fun _ => ?_) (fun _ => ?_))
      | (refine EQN.yes (by omega) ?_)
      | (refine EQN.no (by omega) ?_)
      | (refine EQN.mk (fun _ => ?_) (fun _ => ?_))
      | (refine EQSN.yes (by first | rfl | assumption) ?_)
      | (refine EQSN.no (by first | decide | assumption) ?_)
      | (refine EQSN.mk (fun _ => ?_) (fun _ => ?_))
      | (refine ARN.in (by omega) ?_)
      | (refine ARN.fits (by first | (apply u8_in; omega) | (apply i32_in; omega) | (apply u32_in; omega)) ?_)
      | (refine QUON.pos (by omega) ?_)
      | (refine REMN.pos (by omega) ?_)
      | (refine REMN.mk (by omega) ?_)
      | (show GETN _ _ _; refine GETN.mk (by ((repeat first | refine Heap.room_get ?_ | refine Heap.set_skip (by omega) ?_ | refine Heap.new_skip (by ((repeat first | apply Heap.nx_set | apply Heap.nx_new | apply Heap.nx_kill | apply Heap.nx_room); first | assumption | rfl)) (by omega) ?_ | refine Exd.skip (by assumption) (by omega) ?_); first | assumption | exact Heap.set_at (by omega) | exact Heap.new_at (by ((repeat first | apply Heap.nx_set | apply Heap.nx_new | apply Heap.nx_kill | apply Heap.nx_room); first | assumption | rfl)) (by omega))) ?_)
      | (show GETM _ _ _; refine GETM.mk (by ((repeat first | refine Heap.room_get ?_ | refine Heap.set_skip (by omega) ?_ | refine Heap.new_skip (by ((repeat first | apply Heap.nx_set | apply Heap.nx_new | apply Heap.nx_kill | apply Heap.nx_room); first | assumption | rfl)) (by omega) ?_ | refine Exd.skip (by assumption) (by omega) ?_); first | assumption | exact Heap.set_at (by omega) | exact Heap.new_at (by ((repeat first | apply Heap.nx_set | apply Heap.nx_new | apply Heap.nx_kill | apply Heap.nx_room); first | assumption | rfl)) (by omega))) ?_)
      | (show NEWN _ _; refine NEWN.mk (by ((repeat first | apply Heap.nx_set | apply Heap.nx_new | apply Heap.nx_kill | apply Heap.nx_room); first | assumption | rfl)) ?_)
      | (show SETN _ _ _ _ _ _; refine SETN.mk (by ((repeat first | refine Heap.room_get ?_ | refine Heap.set_skip (by omega) ?_ | refine Heap.new_skip (by ((repeat first | apply Heap.nx_set | apply Heap.nx_new | apply Heap.nx_kill | apply Heap.nx_room); first | assumption | rfl)) (by omega) ?_ | refine Exd.skip (by assumption) (by omega) ?_); first | assumption | exact Heap.set_at (by omega) | exact Heap.new_at (by ((repeat first | apply Heap.nx_set | apply Heap.nx_new | apply Heap.nx_kill | apply Heap.nx_room); first | assumption | rfl)) (by omega))) (by rfl) (by (first | decide | (simp; done) | (simp; omega))) ?_)
      | (show DOESN _ _; refine DOESN.mk (by first | rfl | omega | (simp; done) | (simp; omega)) ?_)
      | (refine BC.yes (by assumption) ?_)
      | (refine BC.no (by assumption) ?_)
      | (refine BC.split (fun _ => ?_) (fun _ => ?_))
      | (refine SOMEN.mk (by rfl) ?_)
      | (refine scopeC ?_)
      | (refine drawC0 (hist := fun _ => Heap.empty 0) rfl ?_)
      | (refine drawC (hist := fun _ => Heap.empty 0) rfl ?_)
      | (show NUMN _ _; refine NUMN.mk (by ((repeat first | apply Heap.nx_set | apply Heap.nx_new | apply Heap.nx_kill | apply Heap.nx_room); first | assumption | rfl)) ?_)
      | (show LOOKN _ _ _ _ _ _; refine LOOKN.mk (by first | exact QV.load rfl (by ((repeat first | refine Heap.room_get ?_ | refine Heap.set_skip (by omega) ?_ | refine Heap.new_skip (by ((repeat first | apply Heap.nx_set | apply Heap.nx_new | apply Heap.nx_kill | apply Heap.nx_room); first | assumption | rfl)) (by omega) ?_ | refine Exd.skip (by assumption) (by omega) ?_); first | assumption | exact Heap.set_at (by omega) | exact Heap.new_at (by ((repeat first | apply Heap.nx_set | apply Heap.nx_new | apply Heap.nx_kill | apply Heap.nx_room); first | assumption | rfl)) (by omega))) (by rfl) | exact QV.loadA rfl (by ((repeat first | refine Heap.room_get ?_ | refine Heap.set_skip (by omega) ?_ | refine Heap.new_skip (by ((repeat first | apply Heap.nx_set | apply Heap.nx_new | apply Heap.nx_kill | apply Heap.nx_room); first | assumption | rfl)) (by omega) ?_ | refine Exd.skip (by assumption) (by omega) ?_); first | assumption | exact Heap.set_at (by omega) | exact Heap.new_at (by ((repeat first | apply Heap.nx_set | apply Heap.nx_new | apply Heap.nx_kill | apply Heap.nx_room); first | assumption | rfl)) (by omega))) (by rfl) (by rfl)) ?_)
      | fail)))
          refine loopC (fun x : Nat × Int => [(0, .str (c :: r)), (4, .str (c :: r)), (5, .int .i64 x.2), (6, .int .i64 x.1)]) (fun x h' => h' = h ∧ x.1 ≤ (c :: r).length ∧ -9223372036854775808 ≤ x.2 ∧ x.2 ≤ 0 ∧ negs 0 (c :: r) = negs x.2 ((c :: r).drop x.1)) (fun x => (c :: r).length - x.1) (0, 0) ⟨rfl, rfl, rfl, rfl, trivial⟩ ⟨rfl, Nat.zero_le _, by show (-9223372036854775808 : Int) ≤ 0; omega, Int.le_refl 0, rfl⟩ ?_
          rintro ⟨i, n⟩ ρ h' ⟨rfl, hi, n0, n1, hn⟩
          simp only at hi n0 n1 hn
          by_cases hl : i < (c :: r).length
          rotate_left
          · have e0 : negs 0 (c :: r) = some n := by rw [hn, List.drop_eq_nil_of_le (by omega), negs]
            (repeat' ((conv => whnf); (first
      | (refine LTN.yes (by omega) ?_)
      | (refine LTN.no (by omega) ?_)
      | (refine LTN.mk (fun _ => ?_) (fun _ => ?_))
      | (refine EQN.yes (by omega) ?_)
      | (refine EQN.no (by omega) ?_)
      | (refine EQN.mk (fun _ => ?_) (fun _ => ?_))
      | (refine EQSN.yes (by first | rfl | assumption) ?_)
      | (refine EQSN.no (by first | decide | assumption) ?_)
      | (refine EQSN.mk (fun _ => ?_) (fun _ => ?_))
      | (refine ARN.in (by omega) ?_)
      | (refine ARN.fits (by first | (apply u8_in; omega) | (apply i32_in; omega) | (apply u32_in; omega)) ?_)
      | (refine QUON.pos (by omega) ?_)
      | (refine REMN.pos (by omega) ?_)
      | (refine REMN.mk (by omega) ?_)
      | (show GETN _ _ _; refine GETN.mk (by ((repeat first | refine Heap.room_get ?_ | refine Heap.set_skip (by omega) ?_ | refine Heap.new_skip (by ((repeat first | apply Heap.nx_set | apply Heap.nx_new | apply Heap.nx_kill | apply Heap.nx_room); first | assumption | rfl)) (by omega) ?_ | refine Exd.skip (by assumption) (by omega) ?_); first | assumption | exact Heap.set_at (by omega) | exact Heap.new_at (by ((repeat first | apply Heap.nx_set | apply Heap.nx_new | apply Heap.nx_kill | apply Heap.nx_room); first | assumption | rfl)) (by omega))) ?_)
      | (show GETM _ _ _; refine GETM.mk (by ((repeat first | refine Heap.room_get ?_ | refine Heap.set_skip (by omega) ?_ | refine Heap.new_skip (by ((repeat first | apply Heap.nx_set | apply Heap.nx_new | apply Heap.nx_kill | apply Heap.nx_room); first | assumption | rfl)) (by omega) ?_ | refine Exd.skip (by assumption) (by omega) ?_); first | assumption | exact Heap.set_at (by omega) | exact Heap.new_at (by ((repeat first | apply Heap.nx_set | apply Heap.nx_new | apply Heap.nx_kill | apply Heap.nx_room); first | assumption | rfl)) (by omega))) ?_)
      | (show NEWN _ _; refine NEWN.mk (by ((repeat first | apply Heap.nx_set | apply Heap.nx_new | apply Heap.nx_kill | apply Heap.nx_room); first | assumption | rfl)) ?_)
      | (show SETN _ _ _ _ _ _; refine SETN.mk (by ((repeat first | refine Heap.room_get ?_ | refine Heap.set_skip (by omega) ?_ | refine Heap.new_skip (by ((repeat first | apply Heap.nx_set | apply Heap.nx_new | apply Heap.nx_kill | apply Heap.nx_room); first | assumption | rfl)) (by omega) ?_ | refine Exd.skip (by assumption) (by omega) ?_); first | assumption | exact Heap.set_at (by omega) | exact Heap.new_at (by ((repeat first | apply Heap.nx_set | apply Heap.nx_new | apply Heap.nx_kill | apply Heap.nx_room); first | assumption | rfl)) (by omega))) (by rfl) (by (first | decide | (simp; done) | (simp; omega))) ?_)
      | (show DOESN _ _; refine DOESN.mk (by first | rfl | omega | (simp; done) | (simp; omega)) ?_)
      | (refine BC.yes (by assumption) ?_)
      | (refine BC.no (by assumption) ?_)
      | (refine BC.split (fun _ => ?_) (fun _ => ?_))
      | (refine SOMEN.mk (by rfl) ?_)
      | (refine scopeC ?_)
      | (refine drawC0 (hist := fun _ => Heap.empty 0) rfl ?_)
      | (refine drawC (hist := fun _ => Heap.empty 0) rfl ?_)
      | (show NUMN _ _; refine NUMN.mk (by ((repeat first | apply Heap.nx_set | apply Heap.nx_new | apply Heap.nx_kill | apply Heap.nx_room); first | assumption | rfl)) ?_)
      | (show LOOKN _ _ _ _ _ _; refine LOOKN.mk (by first | exact QV.load rfl (by ((repeat first | refine Heap.room_get ?_ | refine Heap.set_skip (by omega) ?_ | refine Heap.new_skip (by ((repeat first | apply Heap.nx_set | apply Heap.nx_new | apply Heap.nx_kill | apply Heap.nx_room); first | assumption | rfl)) (by omega) ?_ | refine Exd.skip (by assumption) (by omega) ?_); first | assumption | exact Heap.set_at (by omega) | exact Heap.new_at (by ((repeat first | apply Heap.nx_set | apply Heap.nx_new | apply Heap.nx_kill | apply Heap.nx_room); first | assumption | rfl)) (by omega))) (by rfl) | exact QV.loadA rfl (by ((repeat first | refine Heap.room_get ?_ | refine Heap.set_skip (by omega) ?_ | refine Heap.new_skip (by ((repeat first | apply Heap.nx_set | apply Heap.nx_new | apply Heap.nx_kill | apply Heap.nx_room); first | assumption | rfl)) (by omega) ?_ | refine Exd.skip (by assumption) (by omega) ?_); first | assumption | exact Heap.set_at (by omega) | exact Heap.new_at (by ((repeat first | apply Heap.nx_set | apply Heap.nx_new | apply Heap.nx_kill | apply Heap.nx_room); first | assumption | rfl)) (by omega))) (by rfl) (by rfl)) ?_)
      | fail)))
            · exact k0 (er.trans (by rw [e1, e0]; exact if_pos (by assumption)))
            · exact k1 (0 - n) (er.trans (by rw [e1, e0]; exact if_neg (by assumption)))
          have hu := ((c :: r)[i]).toNat_lt
          have hn' : negs 0 (c :: r) = if isDig (c :: r)[i] ∧ -9223372036854775808 ≤ 10 * n - ((((c :: r)[i]).toNat : Int) - 48) then negs (10 * n - ((((c :: r)[i]).toNat : Int) - 48)) ((c :: r).drop (i + 1)) else none := by rw [hn, List.drop_eq_getElem_cons hl, negs]
          have si : (c :: r)[(i : Int).toNat]? = some (c :: r)[i] := by rw [Int.toNat_natCast, List.getElem?_eq_getElem hl]
          unfold isDig at hn'
          generalize (c :: r)[i] = q at hu hn' si
          (repeat' ((conv => whnf); (first
      | (refine SOMEN.mk si ?_)
      | (refine QUON.neg (by omega) ?_)
      | (refine LTN.yes (by omega) ?_)
      | (refine LTN.no (by omega) ?_)
      | (refine LTN.mk (fun _ => ?_) (fun _ => ?_))
      | (refine EQN.yes (by omega) ?_)
      | (refine EQN.no (by omega) ?_)
      | (refine EQN.mk (fun _ => ?_) (fun _ => ?_))
      | (refine EQSN.yes (by first | rfl | assumption) ?_)
      | (refine EQSN.no (by first | decide | assumption) ?_)
      | (refine EQSN.mk (fun _ => ?_) (fun _ => ?_))
      | (refine ARN.in (by omega) ?_)
      | (refine ARN.fits (by first | (apply u8_in; omega) | (apply i32_in; omega) | (apply u32_in; omega)) ?_)
      | (refine QUON.pos (by omega) ?_)
      | (refine REMN.pos (by omega) ?_)
      | (refine REMN.mk (by omega) ?_)
      | (show GETN _ _ _; refine GETN.mk (by ((repeat first | refine Heap.room_get ?_ | refine Heap.set_skip (by omega) ?_ | refine Heap.new_skip (by ((repeat first | apply Heap.nx_set | apply Heap.nx_new | apply Heap.nx_kill | apply Heap.nx_room); first | assumption | rfl)) (by omega) ?_ | refine Exd.skip (by assumption) (by omega) ?_); first | assumption | exact Heap.set_at (by omega) | exact Heap.new_at (by ((repeat first | apply Heap.nx_set | apply Heap.nx_new | apply Heap.nx_kill | apply Heap.nx_room); first | assumption | rfl)) (by omega))) ?_)
      | (show GETM _ _ _; refine GETM.mk (by ((repeat first | refine Heap.room_get ?_ | refine Heap.set_skip (by omega) ?_ | refine Heap.new_skip (by ((repeat first | apply Heap.nx_set | apply Heap.nx_new | apply Heap.nx_kill | apply Heap.nx_room); first | assumption | rfl)) (by omega) ?_ | refine Exd.skip (by assumption) (by omega) ?_); first | assumption | exact Heap.set_at (by omega) | exact Heap.new_at (by ((repeat first | apply Heap.nx_set | apply Heap.nx_new | apply Heap.nx_kill | apply Heap.nx_room); first | assumption | rfl)) (by omega))) ?_)
      | (show NEWN _ _; refine NEWN.mk (by ((repeat first | apply Heap.nx_set | apply Heap.nx_new | apply Heap.nx_kill | apply Heap.nx_room); first | assumption | rfl)) ?_)
      | (show SETN _ _ _ _ _ _; refine SETN.mk (by ((repeat first | refine Heap.room_get ?_ | refine Heap.set_skip (by omega) ?_ | refine Heap.new_skip (by ((repeat first | apply Heap.nx_set | apply Heap.nx_new | apply Heap.nx_kill | apply Heap.nx_room); first | assumption | rfl)) (by omega) ?_ | refine Exd.skip (by assumption) (by omega) ?_); first | assumption | exact Heap.set_at (by omega) | exact Heap.new_at (by ((repeat first | apply Heap.nx_set | apply Heap.nx_new | apply Heap.nx_kill | apply Heap.nx_room); first | assumption | rfl)) (by omega))) (by rfl) (by (first | decide | (simp; done) | (simp; omega))) ?_)
      | (show DOESN _ _; refine DOESN.mk (by first | rfl | omega | (simp; done) | (simp; omega)) ?_)
      | (refine BC.yes (by assumption) ?_)
      | (refine BC.no (by assumption) ?_)
      | (refine BC.split (fun _ => ?_) (fun _ => ?_))
      | (refine SOMEN.mk (by rfl) ?_)
      | (refine scopeC ?_)
      | (refine drawC0 (hist := fun _ => Heap.empty 0) rfl ?_)
      | (refine drawC (hist := fun _ => Heap.empty 0) rfl ?_)
      | (show NUMN _ _; refine NUMN.mk (by ((repeat first | apply Heap.nx_set | apply Heap.nx_new | apply Heap.nx_kill | apply Heap.nx_room); first | assumption | rfl)) ?_)
      | (show LOOKN _ _ _ _ _ _; refine LOOKN.mk (by first | exact QV.load rfl (by ((repeat first | refine Heap.room_get ?_ | refine Heap.set_skip (by omega) ?_ | refine Heap.new_skip (by ((repeat first | apply Heap.nx_set | apply Heap.nx_new | apply Heap.nx_kill | apply Heap.nx_room); first | assumption | rfl)) (by omega) ?_ | refine Exd.skip (by assumption) (by omega) ?_); first | assumption | exact Heap.set_at (by omega) | exact Heap.new_at (by ((repeat first | apply Heap.nx_set | apply Heap.nx_new | apply Heap.nx_kill | apply Heap.nx_room); first | assumption | rfl)) (by omega))) (by rfl) | exact QV.loadA rfl (by ((repeat first | refine Heap.room_get ?_ | refine Heap.set_skip (by omega) ?_ | refine Heap.new_skip (by ((repeat first | apply Heap.nx_set | apply Heap.nx_new | apply Heap.nx_kill | apply Heap.nx_room); first | assumption | rfl)) (by omega) ?_ | refine Exd.skip (by assumption) (by omega) ?_); first | assumption | exact Heap.set_at (by omega) | exact Heap.new_at (by ((repeat first | apply Heap.nx_set | apply Heap.nx_new | apply Heap.nx_kill | apply Heap.nx_room); first | assumption | rfl)) (by omega))) (by rfl) (by rfl)) ?_)
      | fail)))
          all_goals first
            | exact k0 (er.trans (by rw [e1, hn', if_neg (by omega)]))
            | (refine ⟨rfl, (i + 1, 10 * n - ((q.toNat : Int) - 48)), ⟨rfl, rfl, rfl, rfl, trivial⟩, ⟨rfl, ?_, ?_, ?_, ?_⟩, ?_⟩
               · show i + 1 ≤ (c :: r).length; omega
               · show -9223372036854775808 ≤ 10 * n - ((q.toNat : Int) - 48); omega
               · show 10 * n - ((q.toNat : Int) - 48) ≤ 0; omega
               · show negs 0 (c :: r) = negs (10 * n - ((q.toNat : Int) - 48)) ((c :: r).drop (i + 1)); rw [hn', if_pos (by omega)]
               · show (c :: r).length - (i + 1) < (c :: r).length - i; omega)
        · (repeat' ((conv => whnf); (first
      | (refine LTN.no (by omega) ?_)
      | (refine EQSN.no hz ?_)
      | (refine LTN.yes (by omega) ?_)
      | (refine LTN.no (by omega) ?_)
      | (refine LTN.mk (fun _ => ?_) (fun _ => ?_))
      | (refine EQN.yes (by omega) ?_)
      | (refine EQN.no (by omega) ?_)
      | (refine EQN.mk (fun _ => ?_) (fun _ => ?_))
      | (refine EQSN.yes (by first | rfl | assumption) ?_)
      | (refine EQSN.no (by first | decide | assumption) ?_)
      | (refine EQSN.mk (fun _ => ?_) (fun _ => ?_))
      | (refine ARN.in (by omega) ?_)
      | (refine ARN.fits (by first | (apply u8_in; omega) | (apply i32_in; omega) | (apply u32_in; omega)) ?_)
      | (refine QUON.pos (by omega) ?_)
      | (refine REMN.pos (by omega) ?_)
      | (refine REMN.mk (by omega) ?_)
      | (show GETN _ _ _; refine GETN.mk (by ((repeat first | refine Heap.room_get ?_ | refine Heap.set_skip (by omega) ?_ | refine Heap.new_skip (by ((repeat first | apply Heap.nx_set | apply Heap.nx_new | apply Heap.nx_kill | apply Heap.nx_room); first | assumption | rfl)) (by omega) ?_ | refine Exd.skip (by assumption) (by omega) ?_); first | assumption | exact Heap.set_at (by omega) | exact Heap.new_at (by ((repeat first | apply Heap.nx_set | apply Heap.nx_new | apply Heap.nx_kill | apply Heap.nx_room); first | assumption | rfl)) (by omega))) ?_)
      | (show GETM _ _ _; refine GETM.mk (by ((repeat first | refine Heap.room_get ?_ | refine Heap.set_skip (by omega) ?_ | refine Heap.new_skip (by ((repeat first | apply Heap.nx_set | apply Heap.nx_new | apply Heap.nx_kill | apply Heap.nx_room); first | assumption | rfl)) (by omega) ?_ | refine Exd.skip (by assumption) (by omega) ?_); first | assumption | exact Heap.set_at (by omega) | exact Heap.new_at (by ((repeat first | apply Heap.nx_set | apply Heap.nx_new | apply Heap.nx_kill | apply Heap.nx_room); first | assumption | rfl)) (by omega))) ?_)
      | (show NEWN _ _; refine NEWN.mk (by ((repeat first | apply Heap.nx_set | apply Heap.nx_new | apply Heap.nx_kill | apply Heap.nx_room); first | assumption | rfl)) ?_)
      | (show SETN _ _ _ _ _ _; refine SETN.mk (by ((repeat first | refine Heap.room_get ?_ | refine Heap.set_skip (by omega) ?_ | refine Heap.new_skip (by ((repeat first | apply Heap.nx_set | apply Heap.nx_new | apply Heap.nx_kill | apply Heap.nx_room); first | assumption | rfl)) (by omega) ?_ | refine Exd.skip (by assumption) (by omega) ?_); first | assumption | exact Heap.set_at (by omega) | exact Heap.new_at (by ((repeat first | apply Heap.nx_set | apply Heap.nx_new | apply Heap.nx_kill | apply Heap.nx_room); first | assumption | rfl)) (by omega))) (by rfl) (by (first | decide | (simp; done) | (simp; omega))) ?_)
      | (show DOESN _ _; refine DOESN.mk (by first | rfl | omega | (simp; done) | (simp; omega)) ?_)
      | (refine BC.yes (by assumption) ?_)
      | (refine BC.no (by assumption) ?_)
      | (refine BC.split (fun _ => ?_) (fun _ => ?_))
      | (refine SOMEN.mk (by rfl) ?_)
      | (refine scopeC ?_)
      | (refine drawC0 (hist := fun _ => Heap.empty 0) rfl ?_)
      | (refine drawC (hist := fun _ => Heap.empty 0) rfl ?_)
      | (show NUMN _ _; refine NUMN.mk (by ((repeat first | apply Heap.nx_set | apply Heap.nx_new | apply Heap.nx_kill | apply Heap.nx_room); first | assumption | rfl)) ?_)
      | (show LOOKN _ _ _ _ _ _; refine LOOKN.mk (by first | exact QV.load rfl (by ((repeat first | refine Heap.room_get ?_ | refine Heap.set_skip (by omega) ?_ | refine Heap.new_skip (by ((repeat first | apply Heap.nx_set | apply Heap.nx_new | apply Heap.nx_kill | apply Heap.nx_room); first | assumption | rfl)) (by omega) ?_ | refine Exd.skip (by assumption) (by omega) ?_); first | assumption | exact Heap.set_at (by omega) | exact Heap.new_at (by ((repeat first | apply Heap.nx_set | apply Heap.nx_new | apply Heap.nx_kill | apply Heap.nx_room); first | assumption | rfl)) (by omega))) (by rfl) | exact QV.loadA rfl (by ((repeat first | refine Heap.room_get ?_ | refine Heap.set_skip (by omega) ?_ | refine Heap.new_skip (by ((repeat first | apply Heap.nx_set | apply Heap.nx_new | apply Heap.nx_kill | apply Heap.nx_room); first | assumption | rfl)) (by omega) ?_ | refine Exd.skip (by assumption) (by omega) ?_); first | assumption | exact Heap.set_at (by omega) | exact Heap.new_at (by ((repeat first | apply Heap.nx_set | apply Heap.nx_new | apply Heap.nx_kill | apply Heap.nx_room); first | assumption | rfl)) (by omega))) (by rfl) (by rfl)) ?_)
      | fail)))
          exact k0 (er.trans (by rw [numD, if_pos (.inr ⟨h48, decide_eq_false hz⟩)]))
      · have h48' : c.toNat ≠ 48 := fun e => h48 (u8_48.2 e)
        have e1 := e1 fun h => (h48 h).elim
        (repeat' ((conv => whnf); (first
      | (refine LTN.no (by omega) ?_)
      | (refine LTN.yes (by omega) ?_)
      | (refine LTN.no (by omega) ?_)
      | (refine LTN.mk (fun _ => ?_) (fun _ => ?_))
      | (refine EQN.yes (by omega) ?_)
      | (refine EQN.no (by omega) ?_)
      | (refine EQN.mk (fun _ => ?_) (fun _ => ?_))
      | (refine EQSN.yes (by first | rfl | assumption) ?_)
      | (refine EQSN.no (by first | decide | assumption) ?_)
      | (refine EQSN.mk (fun _ => ?_) (fun _ => ?_))
      | (refine ARN.in (by omega) ?_)
      | (refine ARN.fits (by first | (apply u8_in; omega) | (apply i32_in; omega) | (apply u32_in; omega)) ?_)
      | (refine QUON.pos (by omega) ?_)
      | (refine REMN.pos (by omega) ?_)
      | (refine REMN.mk (by omega) ?_)
      | (show GETN _ _ _; refine GETN.mk (by ((repeat first | refine Heap.room_get ?_ | refine Heap.set_skip (by omega) ?_ | refine Heap.new_skip (by ((repeat first | apply Heap.nx_set | apply Heap.nx_new | apply Heap.nx_kill | apply Heap.nx_room); first | assumption | rfl)) (by omega) ?_ | refine Exd.skip (by assumption) (by omega) ?_); first | assumption | exact Heap.set_at (by omega) | exact Heap.new_at (by ((repeat first | apply Heap.nx_set | apply Heap.nx_new | apply Heap.nx_kill | apply Heap.nx_room); first | assumption | rfl)) (by omega))) ?_)
      | (show GETM _ _ _; refine GETM.mk (by ((repeat first | refine Heap.room_get ?_ | refine Heap.set_skip (by omega) ?_ | refine Heap.new_skip (by ((repeat first | apply Heap.nx_set | apply Heap.nx_new | apply Heap.nx_kill | apply Heap.nx_room); first | assumption | rfl)) (by omega) ?_ | refine Exd.skip (by assumption) (by omega) ?_); first | assumption | exact Heap.set_at (by omega) | exact Heap.new_at (by ((repeat first | apply Heap.nx_set | apply Heap.nx_new | apply Heap.nx_kill | apply Heap.nx_room); first | assumption | rfl)) (by omega))) ?_)
      | (show NEWN _ _; refine NEWN.mk (by ((repeat first | apply Heap.nx_set | apply Heap.nx_new | apply Heap.nx_kill | apply Heap.nx_room); first | assumption | rfl)) ?_)
      | (show SETN _ _ _ _ _ _; refine SETN.mk (by ((repeat first | refine Heap.room_get ?_ | refine Heap.set_skip (by omega) ?_ | refine Heap.new_skip (by ((repeat first | apply Heap.nx_set | apply Heap.nx_new | apply Heap.nx_kill | apply Heap.nx_room); first | assumption | rfl)) (by omega) ?_ | refine Exd.skip (by assumption) (by omega) ?_); first | assumption | exact Heap.set_at (by omega) | exact Heap.new_at (by ((repeat first | apply Heap.nx_set | apply Heap.nx_new | apply Heap.nx_kill | apply Heap.nx_room); first | assumption | rfl)) (by omega))) (by rfl) (by (first | decide | (simp; done) | (simp; omega))) ?_)
      | (show DOESN _ _; refine DOESN.mk (by first | rfl | omega | (simp; done) | (simp; omega)) ?_)
      | (refine BC.yes (by assumption) ?_)
      | (refine BC.no (by assumption) ?_)
      | (refine BC.split (fun _ => ?_) (fun _ => ?_))
      | (refine SOMEN.mk (by rfl) ?_)
      | (refine scopeC ?_)
      | (refine drawC0 (hist := fun _ => Heap.empty 0) rfl ?_)
      | (refine drawC (hist := fun _ => Heap.empty 0) rfl ?_)
      | (show NUMN _ _; refine NUMN.mk (by ((repeat first | apply Heap.nx_set | apply Heap.nx_new | apply Heap.nx_kill | apply Heap.nx_room); first | assumption | rfl)) ?_)
      | (show LOOKN _ _ _ _ _ _; refine LOOKN.mk (by first | exact QV.load rfl (by ((repeat first | refine Heap.room_get ?_ | refine Heap.set_skip (by omega) ?_ | refine Heap.new_skip (by ((repeat first | apply Heap.nx_set | apply Heap.nx_new | apply Heap.nx_kill | apply Heap.nx_room); first | assumption | rfl)) (by omega) ?_ | refine Exd.skip (by assumption) (by omega) ?_); first | assumption | exact Heap.set_at (by omega) | exact Heap.new_at (by ((repeat first | apply Heap.nx_set | apply Heap.nx_new | apply Heap.nx_kill | apply Heap.nx_room); first | assumption | rfl)) (by omega))) (by rfl) | exact QV.loadA rfl (by ((repeat first | refine Heap.room_get ?_ | refine Heap.set_skip (by omega) ?_ | refine Heap.new_skip (by ((repeat first | apply Heap.nx_set | apply Heap.nx_new | apply Heap.nx_kill | apply Heap.nx_room); first | assumption | rfl)) (by omega) ?_ | refine Exd.skip (by assumption) (by omega) ?_); first | assumption | exact Heap.set_at (by omega) | exact Heap.new_at (by ((repeat first | apply Heap.nx_set | apply Heap.nx_new | apply Heap.nx_kill | apply Heap.nx_room); first | assumption | rfl)) (by omega))) (by rfl) (by rfl)) ?_)
      | fail)))
        refine loopC (fun x : Nat × Int => [(0, .str (c :: r)), (4, .str (c :: r)), (5, .int .i64 x.2), (6, .int .i64 x.1)]) (fun x h' => h' = h ∧ x.1 ≤ (c :: r).length ∧ -9223372036854775808 ≤ x.2 ∧ x.2 ≤ 0 ∧ negs 0 (c :: r) = negs x.2 ((c :: r).drop x.1)) (fun x => (c :: r).length - x.1) (0, 0) ⟨rfl, rfl, rfl, rfl, trivial⟩ ⟨rfl, Nat.zero_le _, by show (-9223372036854775808 : Int) ≤ 0; omega, Int.le_refl 0, rfl⟩ ?_
        rintro ⟨i, n⟩ ρ h' ⟨rfl, hi, n0, n1, hn⟩
        simp only at hi n0 n1 hn
        by_cases hl : i < (c :: r).length
        rotate_left
        · have e0 : negs 0 (c :: r) = some n := by rw [hn, List.drop_eq_nil_of_le (by omega), negs]
          (repeat' ((conv => whnf); (first
      | (refine LTN.yes (by omega) ?_)
      | (refine LTN.no (by omega) ?_)
      | (refine LTN.mk (fun _ => ?_) (fun _ => ?_))
      | (refine EQN.yes (by omega) ?_)
      | (refine EQN.no (by omega) ?_)
      | (refine EQN.mk (fun _ => ?_) (fun _ => ?_))
      | (refine EQSN.yes (by first | rfl | assumption) ?_)
      | (refine EQSN.no (by first | decide | assumption) ?_)
      | (refine EQSN.mk (fun _ => ?_) (fun _ => ?_))
      | (refine ARN.in (by omega) ?_)
      | (refine ARN.fits (by first | (apply u8_in; omega) | (apply i32_in; omega) | (apply u32_in; omega)) ?_)
      | (refine QUON.pos (by omega) ?_)
      | (refine REMN.pos (by omega) ?_)
      | (refine REMN.mk (by omega) ?_)
      | (show GETN _ _ _; refine GETN.mk (by ((repeat first | refine Heap.room_get ?_ | refine Heap.set_skip (by omega) ?_ | refine Heap.new_skip (by ((repeat first | apply Heap.nx_set | apply Heap.nx_new | apply Heap.nx_kill | apply Heap.nx_room); first | assumption | rfl)) (by omega) ?_ | refine Exd.skip (by assumption) (by omega) ?_); first | assumption | exact Heap.set_at (by omega) | exact Heap.new_at (by ((repeat first | apply Heap.nx_set | apply Heap.nx_new | apply Heap.nx_kill | apply Heap.nx_room); first | assumption | rfl)) (by omega))) ?_)
      | (show GETM _ _ _; refine GETM.mk (by ((repeat first | refine Heap.room_get ?_ | refine Heap.set_skip (by omega) ?_ | refine Heap.new_skip (by ((repeat first | apply Heap.nx_set | apply Heap.nx_new | apply Heap.nx_kill | apply Heap.nx_room); first | assumption | rfl)) (by omega) ?_ | refine Exd.skip (by assumption) (by omega) ?_); first | assumption | exact Heap.set_at (by omega) | exact Heap.new_at (by ((repeat first | apply Heap.nx_set | apply Heap.nx_new | apply Heap.nx_kill | apply Heap.nx_room); first | assumption | rfl)) (by omega))) ?_)
      | (show NEWN _ _; refine NEWN.mk (by ((repeat first | apply Heap.nx_set | apply Heap.nx_new | apply Heap.nx_kill | apply Heap.nx_room); first | assumption | rfl)) ?_)
      | (show SETN _ _ _ _ _ _; refine SETN.mk (by ((repeat first | refine Heap.room_get ?_ | refine Heap.set_skip (by omega) ?_ | refine Heap.new_skip (by ((repeat first | apply Heap.nx_set | apply Heap.nx_new | apply Heap.nx_kill | apply Heap.nx_room); first | assumption | rfl)) (by omega) ?_ | refine Exd.skip (by assumption) (by omega) ?_); first | assumption | exact Heap.set_at (by omega) | exact Heap.new_at (by ((repeat first | apply Heap.nx_set | apply Heap.nx_new | apply Heap.nx_kill | apply Heap.nx_room); first | assumption | rfl)) (by omega))) (by rfl) (by (first | decide | (simp; done) | (simp; omega))) ?_)
      | (show DOESN _ _; refine DOESN.mk (by first | rfl | omega | (simp; done) | (simp; omega)) ?_)
      | (refine BC.yes (by assumption) ?_)
      | (refine BC.no (by assumption) ?_)
      | (refine BC.split (fun _ => ?_) (fun _ => ?_))
      | (refine SOMEN.mk (by rfl) ?_)
      | (refine scopeC ?_)
      | (refine drawC0 (hist := fun _ => Heap.empty 0) rfl ?_)
      | (refine drawC (hist := fun _ => Heap.empty 0) rfl ?_)
      | (show NUMN _ _; refine NUMN.mk (by ((repeat first | apply Heap.nx_set | apply Heap.nx_new | apply Heap.nx_kill | apply Heap.nx_room); first | assumption | rfl)) ?_)
      | (show LOOKN _ _ _ _ _ _; refine LOOKN.mk (by first | exact QV.load rfl (by ((repeat first | refine Heap.room_get ?_ | refine Heap.set_skip (by omega) ?_ | refine Heap.new_skip (by ((repeat first | apply Heap.nx_set | apply Heap.nx_new | apply Heap.nx_kill | apply Heap.nx_room); first | assumption | rfl)) (by omega) ?_ | refine Exd.skip (by assumption) (by omega) ?_); first | assumption | exact Heap.set_at (by omega) | exact Heap.new_at (by ((repeat first | apply Heap.nx_set | apply Heap.nx_new | apply Heap.nx_kill | apply Heap.nx_room); first | assumption | rfl)) (by omega))) (by rfl) | exact QV.loadA rfl (by ((repeat first | refine Heap.room_get ?_ | refine Heap.set_skip (by omega) ?_ | refine Heap.new_skip (by ((repeat first | apply Heap.nx_set | apply Heap.nx_new | apply Heap.nx_kill | apply Heap.nx_room); first | assumption | rfl)) (by omega) ?_ | refine Exd.skip (by assumption) (by omega) ?_); first | assumption | exact Heap.set_at (by omega) | exact Heap.new_at (by ((repeat first | apply Heap.nx_set | apply Heap.nx_new | apply Heap.nx_kill | apply Heap.nx_room); first | assumption | rfl)) (by omega))) (by rfl) (by rfl)) ?_)
      | fail)))
          · exact k0 (er.trans (by rw [e1, e0]; exact if_pos (by assumption)))
          · exact k1 (0 - n) (er.trans (by rw [e1, e0]; exact if_neg (by assumption)))
        have hu := ((c :: r)[i]).toNat_lt
        have hn' : negs 0 (c :: r) = if isDig (c :: r)[i] ∧ -9223372036854775808 ≤ 10 * n - ((((c :: r)[i]).toNat : Int) - 48) then negs (10 * n - ((((c :: r)[i]).toNat : Int) - 48)) ((c :: r).drop (i + 1)) else none := by rw [hn, List.drop_eq_getElem_cons hl, negs]
        have si : (c :: r)[(i : Int).toNat]? = some (c :: r)[i] := by rw [Int.toNat_natCast, List.getElem?_eq_getElem hl]
        unfold isDig at hn'
        generalize (c :: r)[i] = q at hu hn' si
        (repeat' ((conv => whnf); (first
      | (refine SOMEN.mk si ?_)
      | (refine QUON.neg (by omega) ?_)
      | (refine LTN.yes (by omega) ?_)
      | (refine LTN.no (by omega) ?_)
      | (refine LTN.mk (fun _ => ?_) (fun _ => ?_))
      | (refine EQN.yes (by omega) ?_)
      | (refine EQN.no (by omega) ?_)
      | (refine EQN.mk (fun _ => ?_) (fun _ => ?_))
      | (refine EQSN.yes (by first | rfl | assumption) ?_)
      | (refine EQSN.no (by first | decide | assumption) ?_)
      | (refine EQSN.mk (fun _ => ?_) (fun _ => ?_))
      | (refine ARN.in (by omega) ?_)
      | (refine ARN.fits (by first | (apply u8_in; omega) | (apply i32_in; omega) | (apply u32_in; omega)) ?_)
      | (refine QUON.pos (by omega) ?_)
      | (refine REMN.pos (by omega) ?_)
      | (refine REMN.mk (by omega) ?_)
      | (show GETN _ _ _; refine GETN.mk (by ((repeat first | refine Heap.room_get ?_ | refine Heap.set_skip (by omega) ?_ | refine Heap.new_skip (by ((repeat first | apply Heap.nx_set | apply Heap.nx_new | apply Heap.nx_kill | apply Heap.nx_room); first | assumption | rfl)) (by omega) ?_ | refine Exd.skip (by assumption) (by omega) ?_); first | assumption | exact Heap.set_at (by omega) | exact Heap.new_at (by ((repeat first | apply Heap.nx_set | apply Heap.nx_new | apply Heap.nx_kill | apply Heap.nx_room); first | assumption | rfl)) (by omega))) ?_)
      | (show GETM _ _ _; refine GETM.mk (by ((repeat first | refine Heap.room_get ?_ | refine Heap.set_skip (by omega) ?_ | refine Heap.new_skip (by ((repeat first | apply Heap.nx_set | apply Heap.nx_new | apply Heap.nx_kill | apply Heap.nx_room); first | assumption | rfl)) (by omega) ?_ | refine Exd.skip (by assumption) (by omega) ?_); first | assumption | exact Heap.set_at (by omega) | exact Heap.new_at (by ((repeat first | apply Heap.nx_set | apply Heap.nx_new | apply Heap.nx_kill | apply Heap.nx_room); first | assumption | rfl)) (by omega))) ?_)
      | (show NEWN _ _; refine NEWN.mk (by ((repeat first | apply Heap.nx_set | apply Heap.nx_new | apply Heap.nx_kill | apply Heap.nx_room); first | assumption | rfl)) ?_)
      | (show SETN _ _ _ _ _ _; refine SETN.mk (by ((repeat first | refine Heap.room_get ?_ | refine Heap.set_skip (by omega) ?_ | refine Heap.new_skip (by ((repeat first | apply Heap.nx_set | apply Heap.nx_new | apply Heap.nx_kill | apply Heap.nx_room); first | assumption | rfl)) (by omega) ?_ | refine Exd.skip (by assumption) (by omega) ?_); first | assumption | exact Heap.set_at (by omega) | exact Heap.new_at (by ((repeat first | apply Heap.nx_set | apply Heap.nx_new | apply Heap.nx_kill | apply Heap.nx_room); first | assumption | rfl)) (by omega))) (by rfl) (by (first | decide | (simp; done) | (simp; omega))) ?_)
      | (show DOESN _ _; refine DOESN.mk (by first | rfl | omega | (simp; done) | (simp; omega)) ?_)
      | (refine BC.yes (by assumption) ?_)
      | (refine BC.no (by assumption) ?_)
      | (refine BC.split (fun _ => ?_) (fun _ => ?_))
      | (refine SOMEN.mk (by rfl) ?_)
      | (refine scopeC ?_)
      | (refine drawC0 (hist := fun _ => Heap.empty 0) rfl ?_)
      | (refine drawC (hist := fun _ => Heap.empty 0) rfl ?_)
      | (show NUMN _ _; refine NUMN.mk (by ((repeat first | apply Heap.nx_set | apply Heap.nx_new | apply Heap.nx_kill | apply Heap.nx_room); first | assumption | rfl)) ?_)
      | (show LOOKN _ _ _ _ _ _; refine LOOKN.mk (by first | exact QV.load rfl (by ((repeat first | refine Heap.room_get ?_ | refine Heap.set_skip (by omega) ?_ | refine Heap.new_skip (by ((repeat first | apply Heap.nx_set | apply Heap.nx_new | apply Heap.nx_kill | apply Heap.nx_room); first | assumption | rfl)) (by omega) ?_ | refine Exd.skip (by assumption) (by omega) ?_); first | assumption | exact Heap.set_at (by omega) | exact Heap.new_at (by ((repeat first | apply Heap.nx_set | apply Heap.nx_new | apply Heap.nx_kill | apply Heap.nx_room); first | assumption | rfl)) (by omega))) (by rfl) | exact QV.loadA rfl (by ((repeat first | refine Heap.room_get ?_ | refine Heap.set_skip (by omega) ?_ | refine Heap.new_skip (by ((repeat first | apply Heap.nx_set | apply Heap.nx_new | apply Heap.nx_kill | apply Heap.nx_room); first | assumption | rfl)) (by omega) ?_ | refine Exd.skip (by assumption) (by omega) ?_); first | assumption | exact Heap.set_at (by omega) | exact Heap.new_at (by ((repeat first | apply Heap.nx_set | apply Heap.nx_new | apply Heap.nx_kill | apply Heap.nx_room); first | assumption | rfl)) (by omega))) (by rfl) (by rfl)) ?_)
      | fail)))
        all_goals first
          | exact k0 (er.trans (by rw [e1, hn', if_neg (by omega)]))
          | (refine ⟨rfl, (i + 1, 10 * n - ((q.toNat : Int) - 48)), ⟨rfl, rfl, rfl, rfl, trivial⟩, ⟨rfl, ?_, ?_, ?_, ?_⟩, ?_⟩
             · show i + 1 ≤ (c :: r).length; omega
             · show -9223372036854775808 ≤ 10 * n - ((q.toNat : Int) - 48); omega
             · show 10 * n - ((q.toNat : Int) - 48) ≤ 0; omega
             · show negs 0 (c :: r) = negs (10 * n - ((q.toNat : Int) - 48)) ((c :: r).drop (i + 1)); rw [hn', if_pos (by omega)]
             · show (c :: r).length - (i + 1) < (c :: r).length - i; omega)
end Go.Proofs.YtmppoknfekdbbaaDoor.Cm
