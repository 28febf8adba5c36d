/-
  Event, texts: what is read.
-/
import Derived.Test.YtmppoknfekdbbaaDoorCmEH
namespace Go.Proofs.YtmppoknfekdbbaaDoor.Cm
open Go.RowKit Go.IntWalk
attribute [local irreducible] Heap.set Heap.new Heap.kill Heap.get Heap.room Cal WP

/-- The kind of a name; 0: there is none. -/
def kindOf (n : List UInt8) : Int := if n = evName 1 then 1 else if n = evName 2 then 2 else if n = evName 3 then 3 else if n = evName 4 then 4 else if n = evName 5 then 5 else if n = evName 6 then 6 else 0
theorem kindOf_range (n : List UInt8) : 0 ≤ kindOf n ∧ kindOf n ≤ 6 := by
  unfold kindOf
  repeat' split
  all_goals omega
theorem kindOf_name {k : Nat} (h1 : 1 ≤ k) (h2 : k ≤ 6) : kindOf (evName k) = k := by
  rcases (show k = 1 ∨ k = 2 ∨ k = 3 ∨ k = 4 ∨ k = 5 ∨ k = 6 by omega) with rfl | rfl | rfl | rfl | rfl | rfl <;> rfl
theorem kindOf_none {n : List UInt8} (h : ∀ k : Nat, 1 ≤ k → k ≤ 6 → evName k ≠ n) : kindOf n = 0 := by
  have a : ∀ k : Nat, 1 ≤ k → k ≤ 6 → n ≠ evName k := fun k x y => Ne.symm (h k x y)
  unfold kindOf
  rw [if_neg (show n ≠ evName 1 from a 1 (by omega) (by omega)), if_neg (show n ≠ evName 2 from a 2 (by omega) (by omega)), if_neg (show n ≠ evName 3 from a 3 (by omega) (by omega)), if_neg (show n ≠ evName 4 from a 4 (by omega) (by omega)), if_neg (show n ≠ evName 5 from a 5 (by omega) (by omega)), if_neg (show n ≠ evName 6 from a 6 (by omega) (by omega))]

theorem kind_cal {n : List UInt8} {h : Heap} {Q : CVal → Heap → Prop} (q : Q (.int .i64 (kindOf n)) h) : Cal tt 24 [.str n] h Q := by
  refine Cal.run rfl rfl rfl rfl ?_
  (repeat' ((conv => whnf); (first
      | (refine LTN.yes (by omega) ?_)
      | (refine LTN.no (by omega) ?_)
      | (refine LTN.mk (fun _ => ?_) (fun _ => ?_))
      | (refine EQN.yes (by omega) ?_)
      | (refine EQN.no (by omega) ?_)
      | (refine EQN.mk (fun _ => ?_) (fun _ => ?_))
      | (refine EQSN.yes (by first | rfl | assumption) ?_)
      | (refine EQSN.no (by first | decide | assumption) ?_)
      | (refine EQSN.mk (fun _ => ?_) (fun _ => ?_))
      | (refine ARN.in (by omega) ?_)
      | (refine ARN.fits (by first | (apply u8_in; omega) | (apply i32_in; omega) | (apply u32_in; omega)) ?_)
      | (refine QUON.pos (by omega) ?_)
      | (refine REMN.pos (by omega) ?_)
      | (refine REMN.mk (by omega) ?_)
      | (show GETN _ _ _; refine GETN.mk (by ((repeat first | refine Heap.room_get ?_ | refine Heap.set_skip (by omega) ?_ | refine Heap.new_skip (by ((repeat first | apply Heap.nx_set | apply Heap.nx_new | apply Heap.nx_kill | apply Heap.nx_room); first | assumption | rfl)) (by omega) ?_ | refine Exd.skip (by assumption) (by omega) ?_); first | assumption | exact Heap.set_at (by omega) | exact Heap.new_at (by ((repeat first | apply Heap.nx_set | apply Heap.nx_new | apply Heap.nx_kill | apply Heap.nx_room); first | assumption | rfl)) (by omega))) ?_)
      | (show GETM _ _ _; refine GETM.mk (by ((repeat first | refine Heap.room_get ?_ | refine Heap.set_skip (by omega) ?_ | refine Heap.new_skip (by ((repeat first | apply Heap.nx_set | apply Heap.nx_new | apply Heap.nx_kill | apply Heap.nx_room); first | assumption | rfl)) (by omega) ?_ | refine Exd.skip (by assumption) (by omega) ?_); first | assumption | exact Heap.set_at (by omega) | exact Heap.new_at (by ((repeat first | apply Heap.nx_set | apply Heap.nx_new | apply Heap.nx_kill | apply Heap.nx_room); first | assumption | rfl)) (by omega))) ?_)
      | (show NEWN _ _; refine NEWN.mk (by ((repeat first | apply Heap.nx_set | apply Heap.nx_new | apply Heap.nx_kill | apply Heap.nx_room); first | assumption | rfl)) ?_)
      | (show SETN _ _ _ _ _ _; refine SETN.mk (by ((repeat first | refine Heap.room_get ?_ | refine Heap.set_skip (by omega) ?_ | refine Heap.new_skip (by ((repeat first | apply Heap.nx_set | apply Heap.nx_new | apply Heap.nx_kill | apply Heap.nx_room); first | assumption | rfl)) (by omega) ?_ | refine Exd.skip (by assumption) (by omega) ?_); first | assumption | exact Heap.set_at (by omega) | exact Heap.new_at (by ((repeat first | apply Heap.nx_set | apply Heap.nx_new | apply Heap.nx_kill | apply Heap.nx_room); first | assumption | rfl)) (by omega))) (by rfl) (by (first | decide | (simp; done) | (simp; omega))) ?_)
      | (show DOESN _ _; refine DOESN.mk (by first | rfl | omega | (simp; done) | (simp; omega)) ?_)
      | (refine BC.yes (by assumption) ?_)
      | (refine BC.no (by assumption) ?_)
      | (refine BC.split (fun _ => ?_) (fun _ => ?_))
      | (refine SOMEN.mk (by rfl) ?_)
      | (refine scopeC ?_)
      | (refine drawC0 (hist := fun _ => Heap.empty 0) rfl ?_)
      | (refine drawC (hist := fun _ => Heap.empty 0) rfl ?_)
      | (show NUMN _ _; refine NUMN.mk (by ((repeat first | apply Heap.nx_set | apply Heap.nx_new | apply Heap.nx_kill | apply Heap.nx_room); first | assumption | rfl)) ?_)
      | (show LOOKN _ _ _ _ _ _; refine LOOKN.mk (by first | exact QV.load rfl (by ((repeat first | refine Heap.room_get ?_ | refine Heap.set_skip (by omega) ?_ | refine Heap.new_skip (by ((repeat first | apply Heap.nx_set | apply Heap.nx_new | apply Heap.nx_kill | apply Heap.nx_room); first | assumption | rfl)) (by omega) ?_ | refine Exd.skip (by assumption) (by omega) ?_); first | assumption | exact Heap.set_at (by omega) | exact Heap.new_at (by ((repeat first | apply Heap.nx_set | apply Heap.nx_new | apply Heap.nx_kill | apply Heap.nx_room); first | assumption | rfl)) (by omega))) (by rfl) | exact QV.loadA rfl (by ((repeat first | refine Heap.room_get ?_ | refine Heap.set_skip (by omega) ?_ | refine Heap.new_skip (by ((repeat first | apply Heap.nx_set | apply Heap.nx_new | apply Heap.nx_kill | apply Heap.nx_room); first | assumption | rfl)) (by omega) ?_ | refine Exd.skip (by assumption) (by omega) ?_); first | assumption | exact Heap.set_at (by omega) | exact Heap.new_at (by ((repeat first | apply Heap.nx_set | apply Heap.nx_new | apply Heap.nx_kill | apply Heap.nx_room); first | assumption | rfl)) (by omega))) (by rfl) (by rfl)) ?_)
      | fail)))
  refine loopC (fun k : Nat => [(0, .str n), (3, .int .i64 k)]) (fun k h' => h' = h ∧ 1 ≤ k ∧ k ≤ 7 ∧ ∀ j : Nat, 1 ≤ j → j < k → evName j ≠ n) (fun k => 7 - k) 1 ⟨rfl, rfl, trivial⟩ ⟨rfl, Nat.le_refl _, by omega, fun j _ _ => by omega⟩ ?_
  rintro k ρ h' ⟨rfl, h1, h2, hn⟩
  by_cases h7 : k = 7
  · subst h7
    rw [kindOf_none fun j a b => hn j a (by omega)] at q
    (repeat' ((conv => whnf); (first
      | (refine LTN.yes (by omega) ?_)
      | (refine LTN.no (by omega) ?_)
      | (refine LTN.mk (fun _ => ?_) (fun _ => ?_))
      | (refine EQN.yes (by omega) ?_)
      | (refine EQN.no (by omega) ?_)
      | (refine EQN.mk (fun _ => ?_) (fun _ => ?_))
      | (refine EQSN.yes (by first | rfl | assumption) ?_)
      | (refine EQSN.no (by first | decide | assumption) ?_)
      | (refine EQSN.mk (fun _ => ?_) (fun _ => ?_))
      | (refine ARN.in (by omega) ?_)
      | (refine ARN.fits (by first | (apply u8_in; omega) | (apply i32_in; omega) | (apply u32_in; omega)) ?_)
      | (refine QUON.pos (by omega) ?_)
      | (refine REMN.pos (by omega) ?_)
      | (refine REMN.mk (by omega) ?_)
      | (show GETN _ _ _; refine GETN.mk (by ((repeat first | refine Heap.room_get ?_ | refine Heap.set_skip (by omega) ?_ | refine Heap.new_skip (by ((repeat first | apply Heap.nx_set | apply Heap.nx_new | apply Heap.nx_kill | apply Heap.nx_room); first | assumption | rfl)) (by omega) ?_ | refine Exd.skip (by assumption) (by omega) ?_); first | assumption | exact Heap.set_at (by omega) | exact Heap.new_at (by ((repeat first | apply Heap.nx_set | apply Heap.nx_new | apply Heap.nx_kill | apply Heap.nx_room); first | assumption | rfl)) (by omega))) ?_)
      | (show GETM _ _ _; refine GETM.mk (by ((repeat first | refine Heap.room_get ?_ | refine Heap.set_skip (by omega) ?_ | refine Heap.new_skip (by ((repeat first | apply Heap.nx_set | apply Heap.nx_new | apply Heap.nx_kill | apply Heap.nx_room); first | assumption | rfl)) (by omega) ?_ | refine Exd.skip (by assumption) (by omega) ?_); first | assumption | exact Heap.set_at (by omega) | exact Heap.new_at (by ((repeat first | apply Heap.nx_set | apply Heap.nx_new | apply Heap.nx_kill | apply Heap.nx_room); first | assumption | rfl)) (by omega))) ?_)
      | (show NEWN _ _; refine NEWN.mk (by ((repeat first | apply Heap.nx_set | apply Heap.nx_new | apply Heap.nx_kill | apply Heap.nx_room); first | assumption | rfl)) ?_)
      | (show SETN _ _ _ _ _ _; refine SETN.mk (by ((repeat first | refine Heap.room_get ?_ | refine Heap.set_skip (by omega) ?_ | refine Heap.new_skip (by ((repeat first | apply Heap.nx_set | apply Heap.nx_new | apply Heap.nx_kill | apply Heap.nx_room); first | assumption | rfl)) (by omega) ?_ | refine Exd.skip (by assumption) (by omega) ?_); first | assumption | exact Heap.set_at (by omega) | exact Heap.new_at (by ((repeat first | apply Heap.nx_set | apply Heap.nx_new | apply Heap.nx_kill | apply Heap.nx_room); first | assumption | rfl)) (by omega))) (by rfl) (by (first | decide | (simp; done) | (simp; omega))) ?_)
      | (show DOESN _ _; refine DOESN.mk (by first | rfl | omega | (simp; done) | (simp; omega)) ?_)
      | (refine BC.yes (by assumption) ?_)
      | (refine BC.no (by assumption) ?_)
      | (refine BC.split (fun _ => ?_) (fun _ => ?_))
      | (refine SOMEN.mk (by rfl) ?_)
      | (refine scopeC ?_)
      | (refine drawC0 (hist := fun _ => Heap.empty 0) rfl ?_)
      | (refine drawC (hist := fun _ => Heap.empty 0) rfl ?_)
      | (show NUMN _ _; refine NUMN.mk (by ((repeat first | apply Heap.nx_set | apply Heap.nx_new | apply Heap.nx_kill | apply Heap.nx_room); first | assumption | rfl)) ?_)
      | (show LOOKN _ _ _ _ _ _; refine LOOKN.mk (by first | exact QV.load rfl (by ((repeat first | refine Heap.room_get ?_ | refine Heap.set_skip (by omega) ?_ | refine Heap.new_skip (by ((repeat first | apply Heap.nx_set | apply Heap.nx_new | apply Heap.nx_kill | apply Heap.nx_room); first | assumption | rfl)) (by omega) ?_ | refine Exd.skip (by assumption) (by omega) ?_); first | assumption | exact Heap.set_at (by omega) | exact Heap.new_at (by ((repeat first | apply Heap.nx_set | apply Heap.nx_new | apply Heap.nx_kill | apply Heap.nx_room); first | assumption | rfl)) (by omega))) (by rfl) | exact QV.loadA rfl (by ((repeat first | refine Heap.room_get ?_ | refine Heap.set_skip (by omega) ?_ | refine Heap.new_skip (by ((repeat first | apply Heap.nx_set | apply Heap.nx_new | apply Heap.nx_kill | apply Heap.nx_room); first | assumption | rfl)) (by omega) ?_ | refine Exd.skip (by assumption) (by omega) ?_); first | assumption | exact Heap.set_at (by omega) | exact Heap.new_at (by ((repeat first | apply Heap.nx_set | apply Heap.nx_new | apply Heap.nx_kill | apply Heap.nx_room); first | assumption | rfl)) (by omega))) (by rfl) (by rfl)) ?_)
      | fail)))
    exact q
  (repeat' ((conv => whnf); (first
      | (refine CALLN.of (name_cal ?_))
      | (refine LTN.yes (by omega) ?_)
      | (refine LTN.no (by omega) ?_)
      | (refine LTN.mk (fun _ => ?_) (fun _ => ?_))
      | (refine EQN.yes (by omega) ?_)
      | (refine EQN.no (by omega) ?_)
      | (refine EQN.mk (fun _ => ?_) (fun _ => ?_))
      | (refine EQSN.yes (by first | rfl | assumption) ?_)
      | (refine EQSN.no (by first | decide | assumption) ?_)
      | (refine EQSN.mk (fun _ => ?_) (fun _ => ?_))
      | (refine ARN.in (by omega) ?_)
      | (refine ARN.fits (by first | (apply u8_in; omega) | (apply i32_in; omega) | (apply u32_in; omega)) ?_)
      | (refine QUON.pos (by omega) ?_)
      | (refine REMN.pos (by omega) ?_)
      | (refine REMN.mk (by omega) ?_)
      | (show GETN _ _ _; refine GETN.mk (by ((repeat first | refine Heap.room_get ?_ | refine Heap.set_skip (by omega) ?_ | refine Heap.new_skip (by ((repeat first | apply Heap.nx_set | apply Heap.nx_new | apply Heap.nx_kill | apply Heap.nx_room); first | assumption | rfl)) (by omega) ?_ | refine Exd.skip (by assumption) (by omega) ?_); first | assumption | exact Heap.set_at (by omega) | exact Heap.new_at (by ((repeat first | apply Heap.nx_set | apply Heap.nx_new | apply Heap.nx_kill | apply Heap.nx_room); first | assumption | rfl)) (by omega))) ?_)
      | (show GETM _ _ _; refine GETM.mk (by ((repeat first | refine Heap.room_get ?_ | refine Heap.set_skip (by omega) ?_ | refine Heap.new_skip (by ((repeat first | apply Heap.nx_set | apply Heap.nx_new | apply Heap.nx_kill | apply Heap.nx_room); first | assumption | rfl)) (by omega) ?_ | refine Exd.skip (by assumption) (by omega) ?_); first | assumption | exact Heap.set_at (by omega) | exact Heap.new_at (by ((repeat first | apply Heap.nx_set | apply Heap.nx_new | apply Heap.nx_kill | apply Heap.nx_room); first | assumption | rfl)) (by omega))) ?_)
      | (show NEWN _ _; refine NEWN.mk (by ((repeat first | apply Heap.nx_set | apply Heap.nx_new | apply Heap.nx_kill | apply Heap.nx_room); first | assumption | rfl)) ?_)
      | (show SETN _ _ _ _ _ _; refine SETN.mk (by ((repeat first | refine Heap.room_get ?_ | refine Heap.set_skip (by omega) ?_ | refine Heap.new_skip (by ((repeat first | apply Heap.nx_set | apply Heap.nx_new | apply Heap.nx_kill | apply Heap.nx_room); first | assumption | rfl)) (by omega) ?_ | refine Exd.skip (by assumption) (by omega) ?_); first | assumption | exact Heap.set_at (by omega) | exact Heap.new_at (by ((repeat first | apply Heap.nx_set | apply Heap.nx_new | apply Heap.nx_kill | apply Heap.nx_room); first | assumption | rfl)) (by omega))) (by rfl) (by (first | decide | (simp; done) | (simp; omega))) ?_)
      | (show DOESN _ _; refine DOESN.mk (by first | rfl | omega | (simp; done) | (simp; omega)) ?_)
      | (refine BC.yes (by assumption) ?_)
      | (refine BC.no (by assumption) ?_)
      | (refine BC.split (fun _ => ?_) (fun _ => ?_))
      | (refine SOMEN.mk (by rfl) ?_)
      | (refine scopeC ?_)
      | (refine drawC0 (hist := fun _ => Heap.empty 0) rfl ?_)
      | (refine drawC (hist := fun _ => Heap.empty 0) rfl ?_)
      | (show NUMN _ _; refine NUMN.mk (by ((repeat first | apply Heap.nx_set | apply Heap.nx_new | apply Heap.nx_kill | apply Heap.nx_room); first | assumption | rfl)) ?_)
      | (show LOOKN _ _ _ _ _ _; refine LOOKN.mk (by first | exact QV.load rfl (by ((repeat first | refine Heap.room_get ?_ | refine Heap.set_skip (by omega) ?_ | refine Heap.new_skip (by ((repeat first | apply Heap.nx_set | apply Heap.nx_new | apply Heap.nx_kill | apply Heap.nx_room); first | assumption | rfl)) (by omega) ?_ | refine Exd.skip (by assumption) (by omega) ?_); first | assumption | exact Heap.set_at (by omega) | exact Heap.new_at (by ((repeat first | apply Heap.nx_set | apply Heap.nx_new | apply Heap.nx_kill | apply Heap.nx_room); first | assumption | rfl)) (by omega))) (by rfl) | exact QV.loadA rfl (by ((repeat first | refine Heap.room_get ?_ | refine Heap.set_skip (by omega) ?_ | refine Heap.new_skip (by ((repeat first | apply Heap.nx_set | apply Heap.nx_new | apply Heap.nx_kill | apply Heap.nx_room); first | assumption | rfl)) (by omega) ?_ | refine Exd.skip (by assumption) (by omega) ?_); first | assumption | exact Heap.set_at (by omega) | exact Heap.new_at (by ((repeat first | apply Heap.nx_set | apply Heap.nx_new | apply Heap.nx_kill | apply Heap.nx_room); first | assumption | rfl)) (by omega))) (by rfl) (by rfl)) ?_)
      | fail)))
  · rename_i e
    rw [← e, kindOf_name h1 (by omega)] at q
    exact q
  · refine ⟨rfl, k + 1, ⟨rfl, rfl, trivial⟩, ⟨rfl, by omega, by omega, fun j a b => ?_⟩, by omega⟩
    rcases Nat.lt_or_ge j k with h3 | h3
    · exact hn j a h3
    · obtain rfl : j = k := by omega
      assumption

theorem number_cal {s : List UInt8} {h : Heap} {Q : CVal → Heap → Prop} (hs : s.length ≤ 281474976710656) (q : Q (.int .i64 (parseV s)) h) : Cal tt 23 [.str s] h Q := by
  refine Cal.run rfl rfl rfl rfl ?_
  (repeat' ((conv => whnf); (first
      | (refine CALLN.of (parse_cal hs ?_))
      | (refine LTN.yes (by omega) ?_)
      | (refine LTN.no (by omega) ?_)
      | (refine LTN.mk (fun _ => ?_) (fun _ => ?_))
      | (refine EQN.yes (by omega) ?_)
      | (refine EQN.no (by omega) ?_)
      | (refine EQN.mk (fun _ => ?_) (fun _ => ?_))
      | (refine EQSN.yes (by first | rfl | assumption) ?_)
      | (refine EQSN.no (by first | decide | assumption) ?_)
      | (refine EQSN.mk (fun _ => ?_) (fun _ => ?_))
      | (refine ARN.in (by omega) ?_)
      | (refine ARN.fits (by first | (apply u8_in; omega) | (apply i32_in; omega) | (apply u32_in; omega)) ?_)
      | (refine QUON.pos (by omega) ?_)
      | (refine REMN.pos (by omega) ?_)
      | (refine REMN.mk (by omega) ?_)
      | (show GETN _ _ _; refine GETN.mk (by ((repeat first | refine Heap.room_get ?_ | refine Heap.set_skip (by omega) ?_ | refine Heap.new_skip (by ((repeat first | apply Heap.nx_set | apply Heap.nx_new | apply Heap.nx_kill | apply Heap.nx_room); first | assumption | rfl)) (by omega) ?_ | refine Exd.skip (by assumption) (by omega) ?_); first | assumption | exact Heap.set_at (by omega) | exact Heap.new_at (by ((repeat first | apply Heap.nx_set | apply Heap.nx_new | apply Heap.nx_kill | apply Heap.nx_room); first | assumption | rfl)) (by omega))) ?_)
      | (show GETM _ _ _; refine GETM.mk (by ((repeat first | refine Heap.room_get ?_ | refine Heap.set_skip (by omega) ?_ | refine Heap.new_skip (by ((repeat first | apply Heap.nx_set | apply Heap.nx_new | apply Heap.nx_kill | apply Heap.nx_room); first | assumption | rfl)) (by omega) ?_ | refine Exd.skip (by assumption) (by omega) ?_); first | assumption | exact Heap.set_at (by omega) | exact Heap.new_at (by ((repeat first | apply Heap.nx_set | apply Heap.nx_new | apply Heap.nx_kill | apply Heap.nx_room); first | assumption | rfl)) (by omega))) ?_)
      | (show NEWN _ _; refine NEWN.mk (by ((repeat first | apply Heap.nx_set | apply Heap.nx_new | apply Heap.nx_kill | apply Heap.nx_room); first | assumption | rfl)) ?_)
      | (show SETN _ _ _ _ _ _; refine SETN.mk (by ((repeat first | refine Heap.room_get ?_ | refine Heap.set_skip (by omega) ?_ | refine Heap.new_skip (by ((repeat first | apply Heap.nx_set | apply Heap.nx_new | apply Heap.nx_kill | apply Heap.nx_room); first | assumption | rfl)) (by omega) ?_ | refine Exd.skip (by assumption) (by omega) ?_); first | assumption | exact Heap.set_at (by omega) | exact Heap.new_at (by ((repeat first | apply Heap.nx_set | apply Heap.nx_new | apply Heap.nx_kill | apply Heap.nx_room); first | assumption | rfl)) (by omega))) (by rfl) (by (first | decide | (simp; done) | (simp; omega))) ?_)
      | (show DOESN _ _; refine DOESN.mk (by first | rfl | omega | (simp; done) | (simp; omega)) ?_)
      | (refine BC.yes (by assumption) ?_)
      | (refine BC.no (by assumption) ?_)
      | (refine BC.split (fun _ => ?_) (fun _ => ?_))
      | (refine SOMEN.mk (by rfl) ?_)
      | (refine scopeC ?_)
      | (refine drawC0 (hist := fun _ => Heap.empty 0) rfl ?_)
      | (refine drawC (hist := fun _ => Heap.empty 0) rfl ?_)
      | (show NUMN _ _; refine NUMN.mk (by ((repeat first | apply Heap.nx_set | apply Heap.nx_new | apply Heap.nx_kill | apply Heap.nx_room); first | assumption | rfl)) ?_)
      | (show LOOKN _ _ _ _ _ _; refine LOOKN.mk (by first | exact QV.load rfl (by ((repeat first | refine Heap.room_get ?_ | refine Heap.set_skip (by omega) ?_ | refine Heap.new_skip (by ((repeat first | apply Heap.nx_set | apply Heap.nx_new | apply Heap.nx_kill | apply Heap.nx_room); first | assumption | rfl)) (by omega) ?_ | refine Exd.skip (by assumption) (by omega) ?_); first | assumption | exact Heap.set_at (by omega) | exact Heap.new_at (by ((repeat first | apply Heap.nx_set | apply Heap.nx_new | apply Heap.nx_kill | apply Heap.nx_room); first | assumption | rfl)) (by omega))) (by rfl) | exact QV.loadA rfl (by ((repeat first | refine Heap.room_get ?_ | refine Heap.set_skip (by omega) ?_ | refine Heap.new_skip (by ((repeat first | apply Heap.nx_set | apply Heap.nx_new | apply Heap.nx_kill | apply Heap.nx_room); first | assumption | rfl)) (by omega) ?_ | refine Exd.skip (by assumption) (by omega) ?_); first | assumption | exact Heap.set_at (by omega) | exact Heap.new_at (by ((repeat first | apply Heap.nx_set | apply Heap.nx_new | apply Heap.nx_kill | apply Heap.nx_room); first | assumption | rfl)) (by omega))) (by rfl) (by rfl)) ?_)
      | fail)))
  exact q

theorem parseV_range (s : List UInt8) : -9223372036854775808 ≤ parseV s ∧ parseV s ≤ 9223372036854775807 := by
  unfold parseV
  split
  · next v hv =>
    unfold Lib.parseIntB at hv
    split at hv
    · cases hv
    · simp only at hv
      split at hv
      · cases hv
      · cases hv
      · split at hv
        · cases hv
        · split at hv
          · cases hv
          · simp only [Lib.NumEnd.ok.injEq] at hv
            subst hv
            split <;> omega
  · unfold Lib.intSat
    split <;> simp
  · simp

def ev0 : Ev := ⟨0, 0, 0, 0, 0⟩
/-- What five words tell. -/
def fiveEv (a b c d e : List UInt8) : Ev := ⟨parseV a, kindOf b, parseV c, parseV d, parseV e⟩
theorem fiveEv_ok (a b c d e : List UInt8) : (fiveEv a b c d e).ok := by
  have k := kindOf_range b
  intro n hn
  simp only [fiveEv, List.mem_cons, List.not_mem_nil, or_false] at hn
  rcases hn with rfl | rfl | rfl | rfl | rfl
  · exact parseV_range _
  · omega
  · exact parseV_range _
  · exact parseV_range _
  · exact parseV_range _
def readEv (s : List UInt8) : Option Ev := match splitB s with
  | [a, b, c, d, e] => if kindOf b = 0 ∨ evText (fiveEv a b c d e) ≠ s then none else some (fiveEv a b c d e)
  | _ => none
def resEv : Option Ev → CVal
  | some e => .tuple [.agg e.cs, .bool true]
  | none => .tuple [.agg ev0.cs, .bool false]
theorem readEv_len {s : List UInt8} (h : (splitB s).length ≠ 5) : readEv s = none := by
  unfold readEv
  split
  · next e => rw [e] at h; simp at h
  · rfl
theorem readEv_five {s a b c d e : List UInt8} (h : splitB s = [a, b, c, d, e]) : readEv s = if kindOf b = 0 ∨ evText (fiveEv a b c d e) ≠ s then none else some (fiveEv a b c d e) := by
  unfold readEv
  rw [h]
theorem list5 {α : Type} {l : List α} (h : l.length = 5) : ∃ a b c d e, l = [a, b, c, d, e] := by
  match l, h with
  | [a, b, c, d, e], _ => exact ⟨a, b, c, d, e, rfl⟩

theorem splitB_mem : ∀ {s w : List UInt8}, w ∈ splitB s → w.length ≤ s.length
  | [], w, h => by simp [splitB] at h; simp [h]
  | c :: s, w, h => by
    unfold splitB at h
    split at h
    · rcases List.mem_cons.1 h with rfl | h
      · simp
      · have := splitB_mem h; simp; omega
    · cases hq : splitB s with
      | nil => exact (splitB_ne s hq).elim
      | cons x xs =>
        rw [hq] at h
        rcases List.mem_cons.1 h with rfl | h
        · have : x ∈ splitB s := by rw [hq]; exact List.mem_cons_self ..
          have := splitB_mem this
          simp; omega
        · have : w ∈ splitB s := by rw [hq]; exact List.mem_cons_of_mem _ h
          have := splitB_mem this
          simp; omega

set_option maxHeartbeats 2000000 in
theorem read_cal {s : List UInt8} {h : Heap} {Q : CVal → Heap → Prop} (hs : s.length ≤ 1000) (k : ∀ h', Exd h h' → Q (resEv (readEv s)) h') : Cal tt 10 [.str s] h Q := by
  have k1 : ∀ {h'}, Exd h h' → ∀ r, readEv s = r → Q (resEv r) h' := fun e r hr => hr ▸ k _ e
  refine Cal.run rfl rfl rfl rfl ?_
  (repeat' ((conv => whnf); (first
      | (refine LTN.yes (by omega) ?_)
      | (refine LTN.no (by omega) ?_)
      | (refine LTN.mk (fun _ => ?_) (fun _ => ?_))
      | (refine EQN.yes (by omega) ?_)
      | (refine EQN.no (by omega) ?_)
      | (refine EQN.mk (fun _ => ?_) (fun _ => ?_))
      | (refine EQSN.yes (by first | rfl | assumption) ?_)
      | (refine EQSN.no (by first | decide | assumption) ?_)
      | (refine EQSN.mk (fun _ => ?_) (fun _ => ?_))
      | (refine ARN.in (by omega) ?_)
      | (refine ARN.fits (by first | (apply u8_in; omega) | (apply i32_in; omega) | (apply u32_in; omega)) ?_)
      | (refine QUON.pos (by omega) ?_)
      | (refine REMN.pos (by omega) ?_)
      | (refine REMN.mk (by omega) ?_)
      | (show GETN _ _ _; refine GETN.mk (by ((repeat first | refine Heap.room_get ?_ | refine Heap.set_skip (by omega) ?_ | refine Heap.new_skip (by ((repeat first | apply Heap.nx_set | apply Heap.nx_new | apply Heap.nx_kill | apply Heap.nx_room); first | assumption | rfl)) (by omega) ?_ | refine Exd.skip (by assumption) (by omega) ?_); first | assumption | exact Heap.set_at (by omega) | exact Heap.new_at (by ((repeat first | apply Heap.nx_set | apply Heap.nx_new | apply Heap.nx_kill | apply Heap.nx_room); first | assumption | rfl)) (by omega))) ?_)
      | (show GETM _ _ _; refine GETM.mk (by ((repeat first | refine Heap.room_get ?_ | refine Heap.set_skip (by omega) ?_ | refine Heap.new_skip (by ((repeat first | apply Heap.nx_set | apply Heap.nx_new | apply Heap.nx_kill | apply Heap.nx_room); first | assumption | rfl)) (by omega) ?_ | refine Exd.skip (by assumption) (by omega) ?_); first | assumption | exact Heap.set_at (by omega) | exact Heap.new_at (by ((repeat first | apply Heap.nx_set | apply Heap.nx_new | apply Heap.nx_kill | apply Heap.nx_room); first | assumption | rfl)) (by omega))) ?_)
      | (show NEWN _ _; refine NEWN.mk (by ((repeat first | apply Heap.nx_set | apply Heap.nx_new | apply Heap.nx_kill | apply Heap.nx_room); first | assumption | rfl)) ?_)
      | (show SETN _ _ _ _ _ _; refine SETN.mk (by ((repeat first | refine Heap.room_get ?_ | refine Heap.set_skip (by omega) ?_ | refine Heap.new_skip (by ((repeat first | apply Heap.nx_set | apply Heap.nx_new | apply Heap.nx_kill | apply Heap.nx_room); first | assumption | rfl)) (by omega) ?_ | refine Exd.skip (by assumption) (by omega) ?_); first | assumption | exact Heap.set_at (by omega) | exact Heap.new_at (by ((repeat first | apply Heap.nx_set | apply Heap.nx_new | apply Heap.nx_kill | apply Heap.nx_room); first | assumption | rfl)) (by omega))) (by rfl) (by (first | decide | (simp; done) | (simp; omega))) ?_)
      | (show DOESN _ _; refine DOESN.mk (by first | rfl | omega | (simp; done) | (simp; omega)) ?_)
      | (refine BC.yes (by assumption) ?_)
      | (refine BC.no (by assumption) ?_)
      | (refine BC.split (fun _ => ?_) (fun _ => ?_))
      | (refine SOMEN.mk (by rfl) ?_)
      | (refine scopeC ?_)
      | (refine drawC0 (hist := fun _ => Heap.empty 0) rfl ?_)
      | (refine drawC (hist := fun _ => Heap.empty 0) rfl ?_)
      | (show NUMN _ _; refine NUMN.mk (by ((repeat first | apply Heap.nx_set | apply Heap.nx_new | apply Heap.nx_kill | apply Heap.nx_room); first | assumption | rfl)) ?_)
      | (show LOOKN _ _ _ _ _ _; refine LOOKN.mk (by first | exact QV.load rfl (by ((repeat first | refine Heap.room_get ?_ | refine Heap.set_skip (by omega) ?_ | refine Heap.new_skip (by ((repeat first | apply Heap.nx_set | apply Heap.nx_new | apply Heap.nx_kill | apply Heap.nx_room); first | assumption | rfl)) (by omega) ?_ | refine Exd.skip (by assumption) (by omega) ?_); first | assumption | exact Heap.set_at (by omega) | exact Heap.new_at (by ((repeat first | apply Heap.nx_set | apply Heap.nx_new | apply Heap.nx_kill | apply Heap.nx_room); first | assumption | rfl)) (by omega))) (by rfl) | exact QV.loadA rfl (by ((repeat first | refine Heap.room_get ?_ | refine Heap.set_skip (by omega) ?_ | refine Heap.new_skip (by ((repeat first | apply Heap.nx_set | apply Heap.nx_new | apply Heap.nx_kill | apply Heap.nx_room); first | assumption | rfl)) (by omega) ?_ | refine Exd.skip (by assumption) (by omega) ?_); first | assumption | exact Heap.set_at (by omega) | exact Heap.new_at (by ((repeat first | apply Heap.nx_set | apply Heap.nx_new | apply Heap.nx_kill | apply Heap.nx_room); first | assumption | rfl)) (by omega))) (by rfl) (by rfl)) ?_)
      | fail)))
  refine CALLN.of (words_cal hs fun v h1 x1 O => ?_)
  have g0 := Exd.skip x1 (by (first | omega | (dsimp only; omega) | (simp only []; omega) | (simp only [Heap.next_new]; omega) | (simp only [Heap.next_set]; omega) | (simp only [Heap.next_set, Heap.next_new]; omega) | (simp only [Heap.next_set, Heap.next_new, Heap.next_kill]; omega))) (h.get_new_same _)
  have xx : Exd h h1 := (Exd.new (Exd.refl _)).trans x1
  have n0 : h.next < h1.next := Nat.lt_of_lt_of_le (by (first | omega | (dsimp only; omega) | (simp only []; omega) | (simp only [Heap.next_new]; omega) | (simp only [Heap.next_set]; omega) | (simp only [Heap.next_set, Heap.next_new]; omega) | (simp only [Heap.next_set, Heap.next_new, Heap.next_kill]; omega))) x1.le
  clear x1
  rcases O.cases with ⟨rfl, e0, _⟩ | ⟨b, rfl, b1, b2⟩
  · (repeat' ((conv => whnf); (first
      | (refine LTN.yes (by omega) ?_)
      | (refine LTN.no (by omega) ?_)
      | (refine LTN.mk (fun _ => ?_) (fun _ => ?_))
      | (refine EQN.yes (by omega) ?_)
      | (refine EQN.no (by omega) ?_)
      | (refine EQN.mk (fun _ => ?_) (fun _ => ?_))
      | (refine EQSN.yes (by first | rfl | assumption) ?_)
      | (refine EQSN.no (by first | decide | assumption) ?_)
      | (refine EQSN.mk (fun _ => ?_) (fun _ => ?_))
      | (refine ARN.in (by omega) ?_)
      | (refine ARN.fits (by first | (apply u8_in; omega) | (apply i32_in; omega) | (apply u32_in; omega)) ?_)
      | (refine QUON.pos (by omega) ?_)
      | (refine REMN.pos (by omega) ?_)
      | (refine REMN.mk (by omega) ?_)
      | (show GETN _ _ _; refine GETN.mk (by ((repeat first | refine Heap.room_get ?_ | refine Heap.set_skip (by omega) ?_ | refine Heap.new_skip (by ((repeat first | apply Heap.nx_set | apply Heap.nx_new | apply Heap.nx_kill | apply Heap.nx_room); first | assumption | rfl)) (by omega) ?_ | refine Exd.skip (by assumption) (by omega) ?_); first | assumption | exact Heap.set_at (by omega) | exact Heap.new_at (by ((repeat first | apply Heap.nx_set | apply Heap.nx_new | apply Heap.nx_kill | apply Heap.nx_room); first | assumption | rfl)) (by omega))) ?_)
      | (show GETM _ _ _; refine GETM.mk (by ((repeat first | refine Heap.room_get ?_ | refine Heap.set_skip (by omega) ?_ | refine Heap.new_skip (by ((repeat first | apply Heap.nx_set | apply Heap.nx_new | apply Heap.nx_kill | apply Heap.nx_room); first | assumption | rfl)) (by omega) ?_ | refine Exd.skip (by assumption) (by omega) ?_); first | assumption | exact Heap.set_at (by omega) | exact Heap.new_at (by ((repeat first | apply Heap.nx_set | apply Heap.nx_new | apply Heap.nx_kill | apply Heap.nx_room); first | assumption | rfl)) (by omega))) ?_)
      | (show NEWN _ _; refine NEWN.mk (by ((repeat first | apply Heap.nx_set | apply Heap.nx_new | apply Heap.nx_kill | apply Heap.nx_room); first | assumption | rfl)) ?_)
      | (show SETN _ _ _ _ _ _; refine SETN.mk (by ((repeat first | refine Heap.room_get ?_ | refine Heap.set_skip (by omega) ?_ | refine Heap.new_skip (by ((repeat first | apply Heap.nx_set | apply Heap.nx_new | apply Heap.nx_kill | apply Heap.nx_room); first | assumption | rfl)) (by omega) ?_ | refine Exd.skip (by assumption) (by omega) ?_); first | assumption | exact Heap.set_at (by omega) | exact Heap.new_at (by ((repeat first | apply Heap.nx_set | apply Heap.nx_new | apply Heap.nx_kill | apply Heap.nx_room); first | assumption | rfl)) (by omega))) (by rfl) (by (first | decide | (simp; done) | (simp; omega))) ?_)
      | (show DOESN _ _; refine DOESN.mk (by first | rfl | omega | (simp; done) | (simp; omega)) ?_)
      | (refine BC.yes (by assumption) ?_)
      | (refine BC.no (by assumption) ?_)
      | (refine BC.split (fun _ => ?_) (fun _ => ?_))
      | (refine SOMEN.mk (by rfl) ?_)
      | (refine scopeC ?_)
      | (refine drawC0 (hist := fun _ => Heap.empty 0) rfl ?_)
      | (refine drawC (hist := fun _ => Heap.empty 0) rfl ?_)
      | (show NUMN _ _; refine NUMN.mk (by ((repeat first | apply Heap.nx_set | apply Heap.nx_new | apply Heap.nx_kill | apply Heap.nx_room); first | assumption | rfl)) ?_)
      | (show LOOKN _ _ _ _ _ _; refine LOOKN.mk (by first | exact QV.load rfl (by ((repeat first | refine Heap.room_get ?_ | refine Heap.set_skip (by omega) ?_ | refine Heap.new_skip (by ((repeat first | apply Heap.nx_set | apply Heap.nx_new | apply Heap.nx_kill | apply Heap.nx_room); first | assumption | rfl)) (by omega) ?_ | refine Exd.skip (by assumption) (by omega) ?_); first | assumption | exact Heap.set_at (by omega) | exact Heap.new_at (by ((repeat first | apply Heap.nx_set | apply Heap.nx_new | apply Heap.nx_kill | apply Heap.nx_room); first | assumption | rfl)) (by omega))) (by rfl) | exact QV.loadA rfl (by ((repeat first | refine Heap.room_get ?_ | refine Heap.set_skip (by omega) ?_ | refine Heap.new_skip (by ((repeat first | apply Heap.nx_set | apply Heap.nx_new | apply Heap.nx_kill | apply Heap.nx_room); first | assumption | rfl)) (by omega) ?_ | refine Exd.skip (by assumption) (by omega) ?_); first | assumption | exact Heap.set_at (by omega) | exact Heap.new_at (by ((repeat first | apply Heap.nx_set | apply Heap.nx_new | apply Heap.nx_kill | apply Heap.nx_room); first | assumption | rfl)) (by omega))) (by rfl) (by rfl)) ?_)
      | fail)))
    have e5 : (splitB s).length ≠ 5 := by omega
    exact k1 (by (repeat' first | exact Exd.refl _ | assumption | refine Exd.new ?_ | refine Exd.set ?_ (by omega) | refine Exd.kill ?_ (by omega))) _ (readEv_len e5)
  by_cases h5 : (splitB s).length = 5
  rotate_left
  · (repeat' ((conv => whnf); (first
      | (refine LTN.yes (by omega) ?_)
      | (refine LTN.no (by omega) ?_)
      | (refine LTN.mk (fun _ => ?_) (fun _ => ?_))
      | (refine EQN.yes (by omega) ?_)
      | (refine EQN.no (by omega) ?_)
      | (refine EQN.mk (fun _ => ?_) (fun _ => ?_))
      | (refine EQSN.yes (by first | rfl | assumption) ?_)
      | (refine EQSN.no (by first | decide | assumption) ?_)
      | (refine EQSN.mk (fun _ => ?_) (fun _ => ?_))
      | (refine ARN.in (by omega) ?_)
      | (refine ARN.fits (by first | (apply u8_in; omega) | (apply i32_in; omega) | (apply u32_in; omega)) ?_)
      | (refine QUON.pos (by omega) ?_)
      | (refine REMN.pos (by omega) ?_)
      | (refine REMN.mk (by omega) ?_)
      | (show GETN _ _ _; refine GETN.mk (by ((repeat first | refine Heap.room_get ?_ | refine Heap.set_skip (by omega) ?_ | refine Heap.new_skip (by ((repeat first | apply Heap.nx_set | apply Heap.nx_new | apply Heap.nx_kill | apply Heap.nx_room); first | assumption | rfl)) (by omega) ?_ | refine Exd.skip (by assumption) (by omega) ?_); first | assumption | exact Heap.set_at (by omega) | exact Heap.new_at (by ((repeat first | apply Heap.nx_set | apply Heap.nx_new | apply Heap.nx_kill | apply Heap.nx_room); first | assumption | rfl)) (by omega))) ?_)
      | (show GETM _ _ _; refine GETM.mk (by ((repeat first | refine Heap.room_get ?_ | refine Heap.set_skip (by omega) ?_ | refine Heap.new_skip (by ((repeat first | apply Heap.nx_set | apply Heap.nx_new | apply Heap.nx_kill | apply Heap.nx_room); first | assumption | rfl)) (by omega) ?_ | refine Exd.skip (by assumption) (by omega) ?_); first | assumption | exact Heap.set_at (by omega) | exact Heap.new_at (by ((repeat first | apply Heap.nx_set | apply Heap.nx_new | apply Heap.nx_kill | apply Heap.nx_room); first | assumption | rfl)) (by omega))) ?_)
      | (show NEWN _ _; refine NEWN.mk (by ((repeat first | apply Heap.nx_set | apply Heap.nx_new | apply Heap.nx_kill | apply Heap.nx_room); first | assumption | rfl)) ?_)
      | (show SETN _ _ _ _ _ _; refine SETN.mk (by ((repeat first | refine Heap.room_get ?_ | refine Heap.set_skip (by omega) ?_ | refine Heap.new_skip (by ((repeat first | apply Heap.nx_set | apply Heap.nx_new | apply Heap.nx_kill | apply Heap.nx_room); first | assumption | rfl)) (by omega) ?_ | refine Exd.skip (by assumption) (by omega) ?_); first | assumption | exact Heap.set_at (by omega) | exact Heap.new_at (by ((repeat first | apply Heap.nx_set | apply Heap.nx_new | apply Heap.nx_kill | apply Heap.nx_room); first | assumption | rfl)) (by omega))) (by rfl) (by (first | decide | (simp; done) | (simp; omega))) ?_)
      | (show DOESN _ _; refine DOESN.mk (by first | rfl | omega | (simp; done) | (simp; omega)) ?_)
      | (refine BC.yes (by assumption) ?_)
      | (refine BC.no (by assumption) ?_)
      | (refine BC.split (fun _ => ?_) (fun _ => ?_))
      | (refine SOMEN.mk (by rfl) ?_)
      | (refine scopeC ?_)
      | (refine drawC0 (hist := fun _ => Heap.empty 0) rfl ?_)
      | (refine drawC (hist := fun _ => Heap.empty 0) rfl ?_)
      | (show NUMN _ _; refine NUMN.mk (by ((repeat first | apply Heap.nx_set | apply Heap.nx_new | apply Heap.nx_kill | apply Heap.nx_room); first | assumption | rfl)) ?_)
      | (show LOOKN _ _ _ _ _ _; refine LOOKN.mk (by first | exact QV.load rfl (by ((repeat first | refine Heap.room_get ?_ | refine Heap.set_skip (by omega) ?_ | refine Heap.new_skip (by ((repeat first | apply Heap.nx_set | apply Heap.nx_new | apply Heap.nx_kill | apply Heap.nx_room); first | assumption | rfl)) (by omega) ?_ | refine Exd.skip (by assumption) (by omega) ?_); first | assumption | exact Heap.set_at (by omega) | exact Heap.new_at (by ((repeat first | apply Heap.nx_set | apply Heap.nx_new | apply Heap.nx_kill | apply Heap.nx_room); first | assumption | rfl)) (by omega))) (by rfl) | exact QV.loadA rfl (by ((repeat first | refine Heap.room_get ?_ | refine Heap.set_skip (by omega) ?_ | refine Heap.new_skip (by ((repeat first | apply Heap.nx_set | apply Heap.nx_new | apply Heap.nx_kill | apply Heap.nx_room); first | assumption | rfl)) (by omega) ?_ | refine Exd.skip (by assumption) (by omega) ?_); first | assumption | exact Heap.set_at (by omega) | exact Heap.new_at (by ((repeat first | apply Heap.nx_set | apply Heap.nx_new | apply Heap.nx_kill | apply Heap.nx_room); first | assumption | rfl)) (by omega))) (by rfl) (by rfl)) ?_)
      | fail)))
    exact k1 (by (repeat' first | exact Exd.refl _ | assumption | refine Exd.new ?_ | refine Exd.set ?_ (by omega) | refine Exd.kill ?_ (by omega))) _ (readEv_len h5)
  obtain ⟨wa, wb, wc, wd, we, e5⟩ := list5 h5
  obtain ⟨wr, opn, gb⟩ := O.get
  have f5 := readEv_five e5
  have sm : ∀ {w}, w ∈ splitB s → w.length ≤ 281474976710656 := fun hw => by have := splitB_mem hw; omega
  rw [e5] at gb sm
  rw [h5]
  have xr : Exd h (h1.room 1) := ⟨by rw [Heap.nx_room rfl]; have := xx.le; omega, fun i hi => Heap.room_get (xx.get i hi)⟩
  have bn : h.next < b := by rw [Heap.next_new] at b1; omega
  (repeat' ((conv => whnf); (first
      | (refine CALLN.of (number_cal (sm (by simp)) ?_))
      | (refine CALLN.of (kind_cal ?_))
      | (refine LTN.yes (by omega) ?_)
      | (refine LTN.no (by omega) ?_)
      | (refine LTN.mk (fun _ => ?_) (fun _ => ?_))
      | (refine EQN.yes (by omega) ?_)
      | (refine EQN.no (by omega) ?_)
      | (refine EQN.mk (fun _ => ?_) (fun _ => ?_))
      | (refine EQSN.yes (by first | rfl | assumption) ?_)
      | (refine EQSN.no (by first | decide | assumption) ?_)
      | (refine EQSN.mk (fun _ => ?_) (fun _ => ?_))
      | (refine ARN.in (by omega) ?_)
      | (refine ARN.fits (by first | (apply u8_in; omega) | (apply i32_in; omega) | (apply u32_in; omega)) ?_)
      | (refine QUON.pos (by omega) ?_)
      | (refine REMN.pos (by omega) ?_)
      | (refine REMN.mk (by omega) ?_)
      | (show GETN _ _ _; refine GETN.mk (by ((repeat first | refine Heap.room_get ?_ | refine Heap.set_skip (by omega) ?_ | refine Heap.new_skip (by ((repeat first | apply Heap.nx_set | apply Heap.nx_new | apply Heap.nx_kill | apply Heap.nx_room); first | assumption | rfl)) (by omega) ?_ | refine Exd.skip (by assumption) (by omega) ?_); first | assumption | exact Heap.set_at (by omega) | exact Heap.new_at (by ((repeat first | apply Heap.nx_set | apply Heap.nx_new | apply Heap.nx_kill | apply Heap.nx_room); first | assumption | rfl)) (by omega))) ?_)
      | (show GETM _ _ _; refine GETM.mk (by ((repeat first | refine Heap.room_get ?_ | refine Heap.set_skip (by omega) ?_ | refine Heap.new_skip (by ((repeat first | apply Heap.nx_set | apply Heap.nx_new | apply Heap.nx_kill | apply Heap.nx_room); first | assumption | rfl)) (by omega) ?_ | refine Exd.skip (by assumption) (by omega) ?_); first | assumption | exact Heap.set_at (by omega) | exact Heap.new_at (by ((repeat first | apply Heap.nx_set | apply Heap.nx_new | apply Heap.nx_kill | apply Heap.nx_room); first | assumption | rfl)) (by omega))) ?_)
      | (show NEWN _ _; refine NEWN.mk (by ((repeat first | apply Heap.nx_set | apply Heap.nx_new | apply Heap.nx_kill | apply Heap.nx_room); first | assumption | rfl)) ?_)
      | (show SETN _ _ _ _ _ _; refine SETN.mk (by ((repeat first | refine Heap.room_get ?_ | refine Heap.set_skip (by omega) ?_ | refine Heap.new_skip (by ((repeat first | apply Heap.nx_set | apply Heap.nx_new | apply Heap.nx_kill | apply Heap.nx_room); first | assumption | rfl)) (by omega) ?_ | refine Exd.skip (by assumption) (by omega) ?_); first | assumption | exact Heap.set_at (by omega) | exact Heap.new_at (by ((repeat first | apply Heap.nx_set | apply Heap.nx_new | apply Heap.nx_kill | apply Heap.nx_room); first | assumption | rfl)) (by omega))) (by rfl) (by (first | decide | (simp; done) | (simp; omega))) ?_)
      | (show DOESN _ _; refine DOESN.mk (by first | rfl | omega | (simp; done) | (simp; omega)) ?_)
      | (refine BC.yes (by assumption) ?_)
      | (refine BC.no (by assumption) ?_)
      | (refine BC.split (fun _ => ?_) (fun _ => ?_))
      | (refine SOMEN.mk (by rfl) ?_)
      | (refine scopeC ?_)
      | (refine drawC0 (hist := fun _ => Heap.empty 0) rfl ?_)
      | (refine drawC (hist := fun _ => Heap.empty 0) rfl ?_)
      | (show NUMN _ _; refine NUMN.mk (by ((repeat first | apply Heap.nx_set | apply Heap.nx_new | apply Heap.nx_kill | apply Heap.nx_room); first | assumption | rfl)) ?_)
      | (show LOOKN _ _ _ _ _ _; refine LOOKN.mk (by first | exact QV.load rfl (by ((repeat first | refine Heap.room_get ?_ | refine Heap.set_skip (by omega) ?_ | refine Heap.new_skip (by ((repeat first | apply Heap.nx_set | apply Heap.nx_new | apply Heap.nx_kill | apply Heap.nx_room); first | assumption | rfl)) (by omega) ?_ | refine Exd.skip (by assumption) (by omega) ?_); first | assumption | exact Heap.set_at (by omega) | exact Heap.new_at (by ((repeat first | apply Heap.nx_set | apply Heap.nx_new | apply Heap.nx_kill | apply Heap.nx_room); first | assumption | rfl)) (by omega))) (by rfl) | exact QV.loadA rfl (by ((repeat first | refine Heap.room_get ?_ | refine Heap.set_skip (by omega) ?_ | refine Heap.new_skip (by ((repeat first | apply Heap.nx_set | apply Heap.nx_new | apply Heap.nx_kill | apply Heap.nx_room); first | assumption | rfl)) (by omega) ?_ | refine Exd.skip (by assumption) (by omega) ?_); first | assumption | exact Heap.set_at (by omega) | exact Heap.new_at (by ((repeat first | apply Heap.nx_set | apply Heap.nx_new | apply Heap.nx_kill | apply Heap.nx_room); first | assumption | rfl)) (by omega))) (by rfl) (by rfl)) ?_)
      | fail)))
  · exact k1 (by (repeat' first | exact Exd.refl _ | assumption | refine Exd.new ?_ | refine Exd.set ?_ (by omega) | refine Exd.kill ?_ (by omega))) none (by rw [f5, if_pos (.inl (by assumption))])
  · refine CALLN.of (text_cal (fiveEv_ok wa wb wc wd we) fun h2 x2 => ?_)
    have x3 : Exd h h2 := Exd.trans (by (repeat' first | exact Exd.refl _ | assumption | refine Exd.new ?_ | refine Exd.set ?_ (by omega) | refine Exd.kill ?_ (by omega))) x2
    have l2 := x2.le
    rw [Heap.next_set, Heap.next_set, Heap.nx_room rfl] at l2
    have g2 : h2.get (h1.next + 0) = some (.cells (fiveEv wa wb wc wd we).cs true none) := Exd.skip x2 (by rw [Heap.next_set, Heap.next_set, Heap.nx_room rfl]; omega) (by ((repeat first | refine Heap.room_get ?_ | refine Heap.set_skip (by omega) ?_ | refine Heap.new_skip (by ((repeat first | apply Heap.nx_set | apply Heap.nx_new | apply Heap.nx_kill | apply Heap.nx_room); first | assumption | rfl)) (by omega) ?_ | refine Exd.skip (by assumption) (by omega) ?_); first | assumption | exact Heap.set_at (by omega) | exact Heap.new_at (by ((repeat first | apply Heap.nx_set | apply Heap.nx_new | apply Heap.nx_kill | apply Heap.nx_room); first | assumption | rfl)) (by omega)))
    have g3 := Exd.skip x2 (by rw [Heap.next_set, Heap.next_set, Heap.nx_room rfl]; omega) (Heap.set_skip (by omega) (Heap.set_skip (by omega) (Heap.room_get g0)))
    clear x2
    (repeat' ((conv => whnf); (first
      | (refine LTN.yes (by omega) ?_)
      | (refine LTN.no (by omega) ?_)
      | (refine LTN.mk (fun _ => ?_) (fun _ => ?_))
      | (refine EQN.yes (by omega) ?_)
      | (refine EQN.no (by omega) ?_)
      | (refine EQN.mk (fun _ => ?_) (fun _ => ?_))
      | (refine EQSN.yes (by first | rfl | assumption) ?_)
      | (refine EQSN.no (by first | decide | assumption) ?_)
      | (refine EQSN.mk (fun _ => ?_) (fun _ => ?_))
      | (refine ARN.in (by omega) ?_)
      | (refine ARN.fits (by first | (apply u8_in; omega) | (apply i32_in; omega) | (apply u32_in; omega)) ?_)
      | (refine QUON.pos (by omega) ?_)
      | (refine REMN.pos (by omega) ?_)
      | (refine REMN.mk (by omega) ?_)
      | (show GETN _ _ _; refine GETN.mk (by ((repeat first | refine Heap.room_get ?_ | refine Heap.set_skip (by omega) ?_ | refine Heap.new_skip (by ((repeat first | apply Heap.nx_set | apply Heap.nx_new | apply Heap.nx_kill | apply Heap.nx_room); first | assumption | rfl)) (by omega) ?_ | refine Exd.skip (by assumption) (by omega) ?_); first | assumption | exact Heap.set_at (by omega) | exact Heap.new_at (by ((repeat first | apply Heap.nx_set | apply Heap.nx_new | apply Heap.nx_kill | apply Heap.nx_room); first | assumption | rfl)) (by omega))) ?_)
      | (show GETM _ _ _; refine GETM.mk (by ((repeat first | refine Heap.room_get ?_ | refine Heap.set_skip (by omega) ?_ | refine Heap.new_skip (by ((repeat first | apply Heap.nx_set | apply Heap.nx_new | apply Heap.nx_kill | apply Heap.nx_room); first | assumption | rfl)) (by omega) ?_ | refine Exd.skip (by assumption) (by omega) ?_); first | assumption | exact Heap.set_at (by omega) | exact Heap.new_at (by ((repeat first | apply Heap.nx_set | apply Heap.nx_new | apply Heap.nx_kill | apply Heap.nx_room); first | assumption | rfl)) (by omega))) ?_)
      | (show NEWN _ _; refine NEWN.mk (by ((repeat first | apply Heap.nx_set | apply Heap.nx_new | apply Heap.nx_kill | apply Heap.nx_room); first | assumption | rfl)) ?_)
      | (show SETN _ _ _ _ _ _; refine SETN.mk (by ((repeat first | refine Heap.room_get ?_ | refine Heap.set_skip (by omega) ?_ | refine Heap.new_skip (by ((repeat first | apply Heap.nx_set | apply Heap.nx_new | apply Heap.nx_kill | apply Heap.nx_room); first | assumption | rfl)) (by omega) ?_ | refine Exd.skip (by assumption) (by omega) ?_); first | assumption | exact Heap.set_at (by omega) | exact Heap.new_at (by ((repeat first | apply Heap.nx_set | apply Heap.nx_new | apply Heap.nx_kill | apply Heap.nx_room); first | assumption | rfl)) (by omega))) (by rfl) (by (first | decide | (simp; done) | (simp; omega))) ?_)
      | (show DOESN _ _; refine DOESN.mk (by first | rfl | omega | (simp; done) | (simp; omega)) ?_)
      | (refine BC.yes (by assumption) ?_)
      | (refine BC.no (by assumption) ?_)
      | (refine BC.split (fun _ => ?_) (fun _ => ?_))
      | (refine SOMEN.mk (by rfl) ?_)
      | (refine scopeC ?_)
      | (refine drawC0 (hist := fun _ => Heap.empty 0) rfl ?_)
      | (refine drawC (hist := fun _ => Heap.empty 0) rfl ?_)
      | (show NUMN _ _; refine NUMN.mk (by ((repeat first | apply Heap.nx_set | apply Heap.nx_new | apply Heap.nx_kill | apply Heap.nx_room); first | assumption | rfl)) ?_)
      | (show LOOKN _ _ _ _ _ _; refine LOOKN.mk (by first | exact QV.load rfl (by ((repeat first | refine Heap.room_get ?_ | refine Heap.set_skip (by omega) ?_ | refine Heap.new_skip (by ((repeat first | apply Heap.nx_set | apply Heap.nx_new | apply Heap.nx_kill | apply Heap.nx_room); first | assumption | rfl)) (by omega) ?_ | refine Exd.skip (by assumption) (by omega) ?_); first | assumption | exact Heap.set_at (by omega) | exact Heap.new_at (by ((repeat first | apply Heap.nx_set | apply Heap.nx_new | apply Heap.nx_kill | apply Heap.nx_room); first | assumption | rfl)) (by omega))) (by rfl) | exact QV.loadA rfl (by ((repeat first | refine Heap.room_get ?_ | refine Heap.set_skip (by omega) ?_ | refine Heap.new_skip (by ((repeat first | apply Heap.nx_set | apply Heap.nx_new | apply Heap.nx_kill | apply Heap.nx_room); first | assumption | rfl)) (by omega) ?_ | refine Exd.skip (by assumption) (by omega) ?_); first | assumption | exact Heap.set_at (by omega) | exact Heap.new_at (by ((repeat first | apply Heap.nx_set | apply Heap.nx_new | apply Heap.nx_kill | apply Heap.nx_room); first | assumption | rfl)) (by omega))) (by rfl) (by rfl)) ?_)
      | fail)))
    · exact k1 (by (repeat' first | exact Exd.refl _ | assumption | refine Exd.new ?_ | refine Exd.set ?_ (by omega) | refine Exd.kill ?_ (by omega))) (some (fiveEv wa wb wc wd we)) (by rw [f5, if_neg (fun h => h.elim (by assumption) fun h => h (by assumption))])
    · exact k1 (by (repeat' first | exact Exd.refl _ | assumption | refine Exd.new ?_ | refine Exd.set ?_ (by omega) | refine Exd.kill ?_ (by omega))) none (by rw [f5, if_pos (.inr (by assumption))])
end Go.Proofs.YtmppoknfekdbbaaDoor.Cm
