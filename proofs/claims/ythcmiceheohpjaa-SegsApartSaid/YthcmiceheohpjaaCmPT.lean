/-
  The laws SegsNothing and SegsAgain on the clean machine.
-/
import Derived.Test.YthcmiceheohpjaaCmPS
namespace Go.Proofs.Ythcmiceheohpjaa.Cm
open Go.RowKit Go.IntWalk
attribute [local irreducible] Heap.set Heap.new Heap.kill Heap.get Heap.room Cal WP

theorem law_nothing (f t s : Int) (_ : (Lit.int .i64 f).wf = true) (_ : (Lit.int .i64 t).wf = true) (_ : (Lit.int .i64 s).wf = true) (h : Heap) : Cal tt 5 [.int .i64 f, .int .i64 t, .int .i64 s] h fun v _ => v = .bool true := by
  refine Cal.run rfl rfl rfl rfl ?_
  (repeat' ((conv => whnf); (first
      | refine CALLN.of (takeN_cal (fun h' _ => ?_))
      | refine CALLN.of (new_cal (fun _ => ?_) (fun _ _ _ _ _ h' p b _ _ _ _ => ?_))
      | refine CALLN.of (giveN_cal (fun h' _ => ?_))
      | refine CALLN.of (freeN_cal (fun h' _ => ?_))
      | refine CALLN.of (sizeN_cal ?_)
      | refine CALLN.of (takenN_cal (fun h' _ => ?_))
      | refine CALLN.of (awake3_cal ?_)
      | refine LTN.yes (by omega) ?_
      | refine LTN.no (by omega) ?_
      | refine LTN.mk (fun _ => ?_) (fun _ => ?_)
      | refine EQN.yes (by omega) ?_
      | refine EQN.no (by omega) ?_
      | refine EQN.mk (fun _ => ?_) (fun _ => ?_)
      | refine EQSN.yes (by first | rfl | assumption) ?_
      | refine EQSN.no (by first | decide | assumption) ?_
      | refine EQSN.mk (fun _ => ?_) (fun _ => ?_)
      | refine ARN.in (by omega) ?_
      | refine ARN.fits (by first | (apply u8_in; omega) | (apply i32_in; omega) | (apply u32_in; omega)) ?_
      | refine QUON.pos (by omega) ?_
      | refine REMN.pos (by omega) ?_
      | refine REMN.mk (by omega) ?_
      | refine GETN.mk (by ((repeat first | refine Heap.room_get ?_ | refine Heap.set_skip (by omega) ?_ | refine Heap.new_skip (by ((repeat first | apply Heap.nx_set | apply Heap.nx_new | apply Heap.nx_kill | apply Heap.nx_room); first | assumption | rfl)) (by omega) ?_ | refine Exd.skip (by assumption) (by omega) ?_); first | assumption | exact Heap.set_at (by omega) | exact Heap.new_at (by ((repeat first | apply Heap.nx_set | apply Heap.nx_new | apply Heap.nx_kill | apply Heap.nx_room); first | assumption | rfl)) (by omega))) ?_
      | refine GETM.mk (by ((repeat first | refine Heap.room_get ?_ | refine Heap.set_skip (by omega) ?_ | refine Heap.new_skip (by ((repeat first | apply Heap.nx_set | apply Heap.nx_new | apply Heap.nx_kill | apply Heap.nx_room); first | assumption | rfl)) (by omega) ?_ | refine Exd.skip (by assumption) (by omega) ?_); first | assumption | exact Heap.set_at (by omega) | exact Heap.new_at (by ((repeat first | apply Heap.nx_set | apply Heap.nx_new | apply Heap.nx_kill | apply Heap.nx_room); first | assumption | rfl)) (by omega))) ?_
      | refine NEWN.mk (by ((repeat first | apply Heap.nx_set | apply Heap.nx_new | apply Heap.nx_kill | apply Heap.nx_room); first | assumption | rfl)) ?_
      | refine SETN.mk (by ((repeat first | refine Heap.room_get ?_ | refine Heap.set_skip (by omega) ?_ | refine Heap.new_skip (by ((repeat first | apply Heap.nx_set | apply Heap.nx_new | apply Heap.nx_kill | apply Heap.nx_room); first | assumption | rfl)) (by omega) ?_ | refine Exd.skip (by assumption) (by omega) ?_); first | assumption | exact Heap.set_at (by omega) | exact Heap.new_at (by ((repeat first | apply Heap.nx_set | apply Heap.nx_new | apply Heap.nx_kill | apply Heap.nx_room); first | assumption | rfl)) (by omega))) (by rfl) (by (first | decide | (simp; done) | (simp; omega))) ?_
      | refine DOESN.mk (by first | rfl | omega | (simp; done) | (simp; omega)) ?_
      | refine BC.yes (by assumption) ?_
      | refine BC.no (by assumption) ?_
      | refine BC.split (fun _ => ?_) (fun _ => ?_)
      | refine SOMEN.mk (by rfl) ?_
      | refine scopeC ?_
      | refine drawC0 (hist := fun _ => Heap.empty 0) rfl ?_
      | refine drawC (hist := fun _ => Heap.empty 0) rfl ?_
      | refine NUMN.mk (by ((repeat first | apply Heap.nx_set | apply Heap.nx_new | apply Heap.nx_kill | apply Heap.nx_room); first | assumption | rfl)) ?_
      | refine LOOKN.mk (by first | exact QV.load rfl (by ((repeat first | refine Heap.room_get ?_ | refine Heap.set_skip (by omega) ?_ | refine Heap.new_skip (by ((repeat first | apply Heap.nx_set | apply Heap.nx_new | apply Heap.nx_kill | apply Heap.nx_room); first | assumption | rfl)) (by omega) ?_ | refine Exd.skip (by assumption) (by omega) ?_); first | assumption | exact Heap.set_at (by omega) | exact Heap.new_at (by ((repeat first | apply Heap.nx_set | apply Heap.nx_new | apply Heap.nx_kill | apply Heap.nx_room); first | assumption | rfl)) (by omega))) (by rfl) | exact QV.loadA rfl (by ((repeat first | refine Heap.room_get ?_ | refine Heap.set_skip (by omega) ?_ | refine Heap.new_skip (by ((repeat first | apply Heap.nx_set | apply Heap.nx_new | apply Heap.nx_kill | apply Heap.nx_room); first | assumption | rfl)) (by omega) ?_ | refine Exd.skip (by assumption) (by omega) ?_); first | assumption | exact Heap.set_at (by omega) | exact Heap.new_at (by ((repeat first | apply Heap.nx_set | apply Heap.nx_new | apply Heap.nx_kill | apply Heap.nx_room); first | assumption | rfl)) (by omega))) (by rfl) (by rfl)) ?_)))
  all_goals first | rfl | (exfalso; omega)

/-- The first i of n are taken. -/
def tk (n i : Nat) : List Bool := (List.range n).map fun j => decide (j < i)
theorem tk_len (n i : Nat) : (tk n i).length = n := by simp [tk]
theorem tk_get (n i j : Nat) (h : j < (tk n i).length) : (tk n i)[j] = decide (j < i) := by simp [tk]
theorem tk_zero (n : Nat) : List.replicate n false = tk n 0 := by
  refine List.ext_getElem (by simp [tk]) fun j h1 h2 => by simp [tk]
theorem tk_set (n i : Nat) : (tk n i).set i true = tk n (i + 1) := by
  refine List.ext_getElem (by simp [tk]) fun j h1 h2 => ?_
  rw [List.getElem_set, tk_get, tk_get]
  split
  · next e => subst e; simp
  · next e => congr 1; exact propext (by omega)
theorem tk_first (n i : Nat) (h : i < n) : firstB false (tk n i) = some i := by
  refine firstB_of (by rw [tk_len]; exact h) (by rw [tk_get]; simp) fun j hj => ?_
  rw [tk_get]; simp [hj]
theorem tk_none (n : Nat) : firstB false (tk n n) = none := by
  refine firstB_no fun j hj => ?_
  rw [tk_get]; rw [tk_len] at hj; simp [hj]

def bl (n : Nat) (φ : Nat → Bool) : List Bool := (List.range n).map φ
theorem bl_len (n : Nat) (φ : Nat → Bool) : (bl n φ).length = n := by simp [bl]
theorem bl_get (n : Nat) (φ : Nat → Bool) (j : Nat) (h : j < (bl n φ).length) : (bl n φ)[j] = φ j := by simp [bl]
theorem bl_set (n : Nat) (φ : Nat → Bool) (i : Nat) (v : Bool) : (bl n φ).set i v = bl n fun j => if j = i then v else φ j := by
  refine List.ext_getElem (by simp [bl]) fun j h1 h2 => ?_
  rw [List.getElem_set, bl_get, bl_get]
  by_cases e : i = j
  · subst e; simp
  · rw [if_neg e, if_neg (fun h => e h.symm)]
theorem bl_first (n : Nat) (φ : Nat → Bool) (k : Nat) (h : k < n) (e : φ k = false) (a : ∀ j, j < k → φ j = true) : firstB false (bl n φ) = some k :=
  firstB_of (by rw [bl_len]; exact h) (by rw [bl_get]; exact e) fun j hj => by rw [bl_get, a j hj]; simp
theorem bl_none (n : Nat) (φ : Nat → Bool) (a : ∀ j, j < n → φ j = true) : firstB false (bl n φ) = none :=
  firstB_no fun j hj => by rw [bl_len] at hj; rw [bl_get, a j hj]; simp

theorem law_again (n a b : Int) (_ : (Lit.int .i64 n).wf = true) (_ : (Lit.int .i64 a).wf = true) (_ : (Lit.int .i64 b).wf = true) (h : Heap) : Cal tt 4 [.int .i64 n, .int .i64 a, .int .i64 b] h fun v _ => v = .bool true := by
  refine Cal.run rfl rfl rfl rfl ?_
  (repeat' ((conv => whnf); (first
      | refine CALLN.of (awake3_cal ?_)
      | refine LTN.yes (by omega) ?_
      | refine LTN.no (by omega) ?_
      | refine LTN.mk (fun _ => ?_) (fun _ => ?_)
      | refine EQN.yes (by omega) ?_
      | refine EQN.no (by omega) ?_
      | refine EQN.mk (fun _ => ?_) (fun _ => ?_)
      | refine EQSN.yes (by first | rfl | assumption) ?_
      | refine EQSN.no (by first | decide | assumption) ?_
      | refine EQSN.mk (fun _ => ?_) (fun _ => ?_)
      | refine ARN.in (by omega) ?_
      | refine ARN.fits (by first | (apply u8_in; omega) | (apply i32_in; omega) | (apply u32_in; omega)) ?_
      | refine QUON.pos (by omega) ?_
      | refine REMN.pos (by omega) ?_
      | refine REMN.mk (by omega) ?_
      | refine GETN.mk (by ((repeat first | refine Heap.room_get ?_ | refine Heap.set_skip (by omega) ?_ | refine Heap.new_skip (by ((repeat first | apply Heap.nx_set | apply Heap.nx_new | apply Heap.nx_kill | apply Heap.nx_room); first | assumption | rfl)) (by omega) ?_ | refine Exd.skip (by assumption) (by omega) ?_); first | assumption | exact Heap.set_at (by omega) | exact Heap.new_at (by ((repeat first | apply Heap.nx_set | apply Heap.nx_new | apply Heap.nx_kill | apply Heap.nx_room); first | assumption | rfl)) (by omega))) ?_
      | refine GETM.mk (by ((repeat first | refine Heap.room_get ?_ | refine Heap.set_skip (by omega) ?_ | refine Heap.new_skip (by ((repeat first | apply Heap.nx_set | apply Heap.nx_new | apply Heap.nx_kill | apply Heap.nx_room); first | assumption | rfl)) (by omega) ?_ | refine Exd.skip (by assumption) (by omega) ?_); first | assumption | exact Heap.set_at (by omega) | exact Heap.new_at (by ((repeat first | apply Heap.nx_set | apply Heap.nx_new | apply Heap.nx_kill | apply Heap.nx_room); first | assumption | rfl)) (by omega))) ?_
      | refine NEWN.mk (by ((repeat first | apply Heap.nx_set | apply Heap.nx_new | apply Heap.nx_kill | apply Heap.nx_room); first | assumption | rfl)) ?_
      | refine SETN.mk (by ((repeat first | refine Heap.room_get ?_ | refine Heap.set_skip (by omega) ?_ | refine Heap.new_skip (by ((repeat first | apply Heap.nx_set | apply Heap.nx_new | apply Heap.nx_kill | apply Heap.nx_room); first | assumption | rfl)) (by omega) ?_ | refine Exd.skip (by assumption) (by omega) ?_); first | assumption | exact Heap.set_at (by omega) | exact Heap.new_at (by ((repeat first | apply Heap.nx_set | apply Heap.nx_new | apply Heap.nx_kill | apply Heap.nx_room); first | assumption | rfl)) (by omega))) (by rfl) (by (first | decide | (simp; done) | (simp; omega))) ?_
      | refine DOESN.mk (by first | rfl | omega | (simp; done) | (simp; omega)) ?_
      | refine BC.yes (by assumption) ?_
      | refine BC.no (by assumption) ?_
      | refine BC.split (fun _ => ?_) (fun _ => ?_)
      | refine SOMEN.mk (by rfl) ?_
      | refine scopeC ?_
      | refine drawC0 (hist := fun _ => Heap.empty 0) rfl ?_
      | refine drawC (hist := fun _ => Heap.empty 0) rfl ?_
      | refine NUMN.mk (by ((repeat first | apply Heap.nx_set | apply Heap.nx_new | apply Heap.nx_kill | apply Heap.nx_room); first | assumption | rfl)) ?_
      | refine LOOKN.mk (by first | exact QV.load rfl (by ((repeat first | refine Heap.room_get ?_ | refine Heap.set_skip (by omega) ?_ | refine Heap.new_skip (by ((repeat first | apply Heap.nx_set | apply Heap.nx_new | apply Heap.nx_kill | apply Heap.nx_room); first | assumption | rfl)) (by omega) ?_ | refine Exd.skip (by assumption) (by omega) ?_); first | assumption | exact Heap.set_at (by omega) | exact Heap.new_at (by ((repeat first | apply Heap.nx_set | apply Heap.nx_new | apply Heap.nx_kill | apply Heap.nx_room); first | assumption | rfl)) (by omega))) (by rfl) | exact QV.loadA rfl (by ((repeat first | refine Heap.room_get ?_ | refine Heap.set_skip (by omega) ?_ | refine Heap.new_skip (by ((repeat first | apply Heap.nx_set | apply Heap.nx_new | apply Heap.nx_kill | apply Heap.nx_room); first | assumption | rfl)) (by omega) ?_ | refine Exd.skip (by assumption) (by omega) ?_); first | assumption | exact Heap.set_at (by omega) | exact Heap.new_at (by ((repeat first | apply Heap.nx_set | apply Heap.nx_new | apply Heap.nx_kill | apply Heap.nx_room); first | assumption | rfl)) (by omega))) (by rfl) (by rfl)) ?_)))
  all_goals first | rfl | skip
  refine CALLN.of (new_cal (fun _ => by exfalso; omega) (fun _ _ _ _ _ h' p c _ _ _ hs => ?_))
  obtain ⟨n, rfl⟩ : ∃ m : Nat, n = (m : Int) := ⟨n.toNat, by omega⟩
  obtain ⟨a, rfl⟩ : ∃ m : Nat, a = (m : Int) := ⟨a.toNat, by omega⟩
  obtain ⟨b, rfl⟩ : ∃ m : Nat, b = (m : Int) := ⟨b.toNat, by omega⟩
  rw [show ((n : Int) * 5 - 0) / 5 = n from by omega, Int.toNat_natCast, tk_zero] at hs
  (repeat' ((conv => whnf); (first
      | refine LTN.yes (by omega) ?_
      | refine LTN.no (by omega) ?_
      | refine LTN.mk (fun _ => ?_) (fun _ => ?_)
      | refine EQN.yes (by omega) ?_
      | refine EQN.no (by omega) ?_
      | refine EQN.mk (fun _ => ?_) (fun _ => ?_)
      | refine EQSN.yes (by first | rfl | assumption) ?_
      | refine EQSN.no (by first | decide | assumption) ?_
      | refine EQSN.mk (fun _ => ?_) (fun _ => ?_)
      | refine ARN.in (by omega) ?_
      | refine ARN.fits (by first | (apply u8_in; omega) | (apply i32_in; omega) | (apply u32_in; omega)) ?_
      | refine QUON.pos (by omega) ?_
      | refine REMN.pos (by omega) ?_
      | refine REMN.mk (by omega) ?_
      | refine GETN.mk (by ((repeat first | refine Heap.room_get ?_ | refine Heap.set_skip (by omega) ?_ | refine Heap.new_skip (by ((repeat first | apply Heap.nx_set | apply Heap.nx_new | apply Heap.nx_kill | apply Heap.nx_room); first | assumption | rfl)) (by omega) ?_ | refine Exd.skip (by assumption) (by omega) ?_); first | assumption | exact Heap.set_at (by omega) | exact Heap.new_at (by ((repeat first | apply Heap.nx_set | apply Heap.nx_new | apply Heap.nx_kill | apply Heap.nx_room); first | assumption | rfl)) (by omega))) ?_
      | refine GETM.mk (by ((repeat first | refine Heap.room_get ?_ | refine Heap.set_skip (by omega) ?_ | refine Heap.new_skip (by ((repeat first | apply Heap.nx_set | apply Heap.nx_new | apply Heap.nx_kill | apply Heap.nx_room); first | assumption | rfl)) (by omega) ?_ | refine Exd.skip (by assumption) (by omega) ?_); first | assumption | exact Heap.set_at (by omega) | exact Heap.new_at (by ((repeat first | apply Heap.nx_set | apply Heap.nx_new | apply Heap.nx_kill | apply Heap.nx_room); first | assumption | rfl)) (by omega))) ?_
      | refine NEWN.mk (by ((repeat first | apply Heap.nx_set | apply Heap.nx_new | apply Heap.nx_kill | apply Heap.nx_room); first | assumption | rfl)) ?_
      | refine SETN.mk (by ((repeat first | refine Heap.room_get ?_ | refine Heap.set_skip (by omega) ?_ | refine Heap.new_skip (by ((repeat first | apply Heap.nx_set | apply Heap.nx_new | apply Heap.nx_kill | apply Heap.nx_room); first | assumption | rfl)) (by omega) ?_ | refine Exd.skip (by assumption) (by omega) ?_); first | assumption | exact Heap.set_at (by omega) | exact Heap.new_at (by ((repeat first | apply Heap.nx_set | apply Heap.nx_new | apply Heap.nx_kill | apply Heap.nx_room); first | assumption | rfl)) (by omega))) (by rfl) (by (first | decide | (simp; done) | (simp; omega))) ?_
      | refine DOESN.mk (by first | rfl | omega | (simp; done) | (simp; omega)) ?_
      | refine BC.yes (by assumption) ?_
      | refine BC.no (by assumption) ?_
      | refine BC.split (fun _ => ?_) (fun _ => ?_)
      | refine SOMEN.mk (by rfl) ?_
      | refine scopeC ?_
      | refine drawC0 (hist := fun _ => Heap.empty 0) rfl ?_
      | refine drawC (hist := fun _ => Heap.empty 0) rfl ?_
      | refine NUMN.mk (by ((repeat first | apply Heap.nx_set | apply Heap.nx_new | apply Heap.nx_kill | apply Heap.nx_room); first | assumption | rfl)) ?_
      | refine LOOKN.mk (by first | exact QV.load rfl (by ((repeat first | refine Heap.room_get ?_ | refine Heap.set_skip (by omega) ?_ | refine Heap.new_skip (by ((repeat first | apply Heap.nx_set | apply Heap.nx_new | apply Heap.nx_kill | apply Heap.nx_room); first | assumption | rfl)) (by omega) ?_ | refine Exd.skip (by assumption) (by omega) ?_); first | assumption | exact Heap.set_at (by omega) | exact Heap.new_at (by ((repeat first | apply Heap.nx_set | apply Heap.nx_new | apply Heap.nx_kill | apply Heap.nx_room); first | assumption | rfl)) (by omega))) (by rfl) | exact QV.loadA rfl (by ((repeat first | refine Heap.room_get ?_ | refine Heap.set_skip (by omega) ?_ | refine Heap.new_skip (by ((repeat first | apply Heap.nx_set | apply Heap.nx_new | apply Heap.nx_kill | apply Heap.nx_room); first | assumption | rfl)) (by omega) ?_ | refine Exd.skip (by assumption) (by omega) ?_); first | assumption | exact Heap.set_at (by omega) | exact Heap.new_at (by ((repeat first | apply Heap.nx_set | apply Heap.nx_new | apply Heap.nx_kill | apply Heap.nx_room); first | assumption | rfl)) (by omega))) (by rfl) (by rfl)) ?_)))
  refine loopC (fun i : Nat => [(0, .int .i64 n), (1, .int .i64 a), (2, .int .i64 b), (7, .ptr p 0), (9, .int .i64 i)]) (fun i h => IsSegs h p c 0 5 (tk n i) ∧ i ≤ n) (fun i => n - i) 0 ⟨rfl, rfl, rfl, rfl, rfl, trivial⟩ ⟨hs, Nat.zero_le _⟩ ?_
  rintro i ρ h ⟨hs, hle⟩
  have rg : ∀ l : List Bool, l.length = n → InRange 0 5 l.length := fun l e => ⟨by omega, by omega, by omega, by omega, by omega⟩
  (repeat' ((conv => whnf); (first
      | refine LTN.yes (by omega) ?_
      | refine LTN.no (by omega) ?_
      | refine LTN.mk (fun _ => ?_) (fun _ => ?_)
      | refine EQN.yes (by omega) ?_
      | refine EQN.no (by omega) ?_
      | refine EQN.mk (fun _ => ?_) (fun _ => ?_)
      | refine EQSN.yes (by first | rfl | assumption) ?_
      | refine EQSN.no (by first | decide | assumption) ?_
      | refine EQSN.mk (fun _ => ?_) (fun _ => ?_)
      | refine ARN.in (by omega) ?_
      | refine ARN.fits (by first | (apply u8_in; omega) | (apply i32_in; omega) | (apply u32_in; omega)) ?_
      | refine QUON.pos (by omega) ?_
      | refine REMN.pos (by omega) ?_
      | refine REMN.mk (by omega) ?_
      | refine GETN.mk (by ((repeat first | refine Heap.room_get ?_ | refine Heap.set_skip (by omega) ?_ | refine Heap.new_skip (by ((repeat first | apply Heap.nx_set | apply Heap.nx_new | apply Heap.nx_kill | apply Heap.nx_room); first | assumption | rfl)) (by omega) ?_ | refine Exd.skip (by assumption) (by omega) ?_); first | assumption | exact Heap.set_at (by omega) | exact Heap.new_at (by ((repeat first | apply Heap.nx_set | apply Heap.nx_new | apply Heap.nx_kill | apply Heap.nx_room); first | assumption | rfl)) (by omega))) ?_
      | refine GETM.mk (by ((repeat first | refine Heap.room_get ?_ | refine Heap.set_skip (by omega) ?_ | refine Heap.new_skip (by ((repeat first | apply Heap.nx_set | apply Heap.nx_new | apply Heap.nx_kill | apply Heap.nx_room); first | assumption | rfl)) (by omega) ?_ | refine Exd.skip (by assumption) (by omega) ?_); first | assumption | exact Heap.set_at (by omega) | exact Heap.new_at (by ((repeat first | apply Heap.nx_set | apply Heap.nx_new | apply Heap.nx_kill | apply Heap.nx_room); first | assumption | rfl)) (by omega))) ?_
      | refine NEWN.mk (by ((repeat first | apply Heap.nx_set | apply Heap.nx_new | apply Heap.nx_kill | apply Heap.nx_room); first | assumption | rfl)) ?_
      | refine SETN.mk (by ((repeat first | refine Heap.room_get ?_ | refine Heap.set_skip (by omega) ?_ | refine Heap.new_skip (by ((repeat first | apply Heap.nx_set | apply Heap.nx_new | apply Heap.nx_kill | apply Heap.nx_room); first | assumption | rfl)) (by omega) ?_ | refine Exd.skip (by assumption) (by omega) ?_); first | assumption | exact Heap.set_at (by omega) | exact Heap.new_at (by ((repeat first | apply Heap.nx_set | apply Heap.nx_new | apply Heap.nx_kill | apply Heap.nx_room); first | assumption | rfl)) (by omega))) (by rfl) (by (first | decide | (simp; done) | (simp; omega))) ?_
      | refine DOESN.mk (by first | rfl | omega | (simp; done) | (simp; omega)) ?_
      | refine BC.yes (by assumption) ?_
      | refine BC.no (by assumption) ?_
      | refine BC.split (fun _ => ?_) (fun _ => ?_)
      | refine SOMEN.mk (by rfl) ?_
      | refine scopeC ?_
      | refine drawC0 (hist := fun _ => Heap.empty 0) rfl ?_
      | refine drawC (hist := fun _ => Heap.empty 0) rfl ?_
      | refine NUMN.mk (by ((repeat first | apply Heap.nx_set | apply Heap.nx_new | apply Heap.nx_kill | apply Heap.nx_room); first | assumption | rfl)) ?_
      | refine LOOKN.mk (by first | exact QV.load rfl (by ((repeat first | refine Heap.room_get ?_ | refine Heap.set_skip (by omega) ?_ | refine Heap.new_skip (by ((repeat first | apply Heap.nx_set | apply Heap.nx_new | apply Heap.nx_kill | apply Heap.nx_room); first | assumption | rfl)) (by omega) ?_ | refine Exd.skip (by assumption) (by omega) ?_); first | assumption | exact Heap.set_at (by omega) | exact Heap.new_at (by ((repeat first | apply Heap.nx_set | apply Heap.nx_new | apply Heap.nx_kill | apply Heap.nx_room); first | assumption | rfl)) (by omega))) (by rfl) | exact QV.loadA rfl (by ((repeat first | refine Heap.room_get ?_ | refine Heap.set_skip (by omega) ?_ | refine Heap.new_skip (by ((repeat first | apply Heap.nx_set | apply Heap.nx_new | apply Heap.nx_kill | apply Heap.nx_room); first | assumption | rfl)) (by omega) ?_ | refine Exd.skip (by assumption) (by omega) ?_); first | assumption | exact Heap.set_at (by omega) | exact Heap.new_at (by ((repeat first | apply Heap.nx_set | apply Heap.nx_new | apply Heap.nx_kill | apply Heap.nx_room); first | assumption | rfl)) (by omega))) (by rfl) (by rfl)) ?_)))
  · -- one more is taken
    refine CALLN.of (take_cal hs (rg _ (tk_len n i)) (fun j h' e hs' u => ?_) (fun h' e _ _ => ?_))
    · rw [tk_first n i (by omega)] at e
      obtain rfl : i = j := by simpa using e
      rw [tk_set] at hs'
      (repeat' ((conv => whnf); (first
      | refine LTN.yes (by omega) ?_
      | refine LTN.no (by omega) ?_
      | refine LTN.mk (fun _ => ?_) (fun _ => ?_)
      | refine EQN.yes (by omega) ?_
      | refine EQN.no (by omega) ?_
      | refine EQN.mk (fun _ => ?_) (fun _ => ?_)
      | refine EQSN.yes (by first | rfl | assumption) ?_
      | refine EQSN.no (by first | decide | assumption) ?_
      | refine EQSN.mk (fun _ => ?_) (fun _ => ?_)
      | refine ARN.in (by omega) ?_
      | refine ARN.fits (by first | (apply u8_in; omega) | (apply i32_in; omega) | (apply u32_in; omega)) ?_
      | refine QUON.pos (by omega) ?_
      | refine REMN.pos (by omega) ?_
      | refine REMN.mk (by omega) ?_
      | refine GETN.mk (by ((repeat first | refine Heap.room_get ?_ | refine Heap.set_skip (by omega) ?_ | refine Heap.new_skip (by ((repeat first | apply Heap.nx_set | apply Heap.nx_new | apply Heap.nx_kill | apply Heap.nx_room); first | assumption | rfl)) (by omega) ?_ | refine Exd.skip (by assumption) (by omega) ?_); first | assumption | exact Heap.set_at (by omega) | exact Heap.new_at (by ((repeat first | apply Heap.nx_set | apply Heap.nx_new | apply Heap.nx_kill | apply Heap.nx_room); first | assumption | rfl)) (by omega))) ?_
      | refine GETM.mk (by ((repeat first | refine Heap.room_get ?_ | refine Heap.set_skip (by omega) ?_ | refine Heap.new_skip (by ((repeat first | apply Heap.nx_set | apply Heap.nx_new | apply Heap.nx_kill | apply Heap.nx_room); first | assumption | rfl)) (by omega) ?_ | refine Exd.skip (by assumption) (by omega) ?_); first | assumption | exact Heap.set_at (by omega) | exact Heap.new_at (by ((repeat first | apply Heap.nx_set | apply Heap.nx_new | apply Heap.nx_kill | apply Heap.nx_room); first | assumption | rfl)) (by omega))) ?_
      | refine NEWN.mk (by ((repeat first | apply Heap.nx_set | apply Heap.nx_new | apply Heap.nx_kill | apply Heap.nx_room); first | assumption | rfl)) ?_
      | refine SETN.mk (by ((repeat first | refine Heap.room_get ?_ | refine Heap.set_skip (by omega) ?_ | refine Heap.new_skip (by ((repeat first | apply Heap.nx_set | apply Heap.nx_new | apply Heap.nx_kill | apply Heap.nx_room); first | assumption | rfl)) (by omega) ?_ | refine Exd.skip (by assumption) (by omega) ?_); first | assumption | exact Heap.set_at (by omega) | exact Heap.new_at (by ((repeat first | apply Heap.nx_set | apply Heap.nx_new | apply Heap.nx_kill | apply Heap.nx_room); first | assumption | rfl)) (by omega))) (by rfl) (by (first | decide | (simp; done) | (simp; omega))) ?_
      | refine DOESN.mk (by first | rfl | omega | (simp; done) | (simp; omega)) ?_
      | refine BC.yes (by assumption) ?_
      | refine BC.no (by assumption) ?_
      | refine BC.split (fun _ => ?_) (fun _ => ?_)
      | refine SOMEN.mk (by rfl) ?_
      | refine scopeC ?_
      | refine drawC0 (hist := fun _ => Heap.empty 0) rfl ?_
      | refine drawC (hist := fun _ => Heap.empty 0) rfl ?_
      | refine NUMN.mk (by ((repeat first | apply Heap.nx_set | apply Heap.nx_new | apply Heap.nx_kill | apply Heap.nx_room); first | assumption | rfl)) ?_
      | refine LOOKN.mk (by first | exact QV.load rfl (by ((repeat first | refine Heap.room_get ?_ | refine Heap.set_skip (by omega) ?_ | refine Heap.new_skip (by ((repeat first | apply Heap.nx_set | apply Heap.nx_new | apply Heap.nx_kill | apply Heap.nx_room); first | assumption | rfl)) (by omega) ?_ | refine Exd.skip (by assumption) (by omega) ?_); first | assumption | exact Heap.set_at (by omega) | exact Heap.new_at (by ((repeat first | apply Heap.nx_set | apply Heap.nx_new | apply Heap.nx_kill | apply Heap.nx_room); first | assumption | rfl)) (by omega))) (by rfl) | exact QV.loadA rfl (by ((repeat first | refine Heap.room_get ?_ | refine Heap.set_skip (by omega) ?_ | refine Heap.new_skip (by ((repeat first | apply Heap.nx_set | apply Heap.nx_new | apply Heap.nx_kill | apply Heap.nx_room); first | assumption | rfl)) (by omega) ?_ | refine Exd.skip (by assumption) (by omega) ?_); first | assumption | exact Heap.set_at (by omega) | exact Heap.new_at (by ((repeat first | apply Heap.nx_set | apply Heap.nx_new | apply Heap.nx_kill | apply Heap.nx_room); first | assumption | rfl)) (by omega))) (by rfl) (by rfl)) ?_)))
      exact ⟨rfl, i + 1, ⟨rfl, rfl, rfl, rfl, rfl, trivial⟩, ⟨hs', by omega⟩, by omega⟩
    · rw [tk_first n i (by omega)] at e; simp at e
  · obtain rfl : i = n := by omega
    have ha : a < i := by omega
    have hb : b < i := by omega
    have hab : a ≠ b := by omega
    change IsSegs h p c 0 5 (bl i _) at hs
    refine CALLN.of (give_cal hs (rg _ (bl_len i _)) (fun j hj h1 e1 e2 hs u => ?_) (fun h1 no _ _ => (no a (by rw [bl_len]; exact ha) (by rw [bl_get]; simp; omega) (by omega)).elim))
    obtain rfl : j = a := by omega
    rw [bl_set] at hs
    (repeat' ((conv => whnf); (first
      | refine LTN.yes (by omega) ?_
      | refine LTN.no (by omega) ?_
      | refine LTN.mk (fun _ => ?_) (fun _ => ?_)
      | refine EQN.yes (by omega) ?_
      | refine EQN.no (by omega) ?_
      | refine EQN.mk (fun _ => ?_) (fun _ => ?_)
      | refine EQSN.yes (by first | rfl | assumption) ?_
      | refine EQSN.no (by first | decide | assumption) ?_
      | refine EQSN.mk (fun _ => ?_) (fun _ => ?_)
      | refine ARN.in (by omega) ?_
      | refine ARN.fits (by first | (apply u8_in; omega) | (apply i32_in; omega) | (apply u32_in; omega)) ?_
      | refine QUON.pos (by omega) ?_
      | refine REMN.pos (by omega) ?_
      | refine REMN.mk (by omega) ?_
      | refine GETN.mk (by ((repeat first | refine Heap.room_get ?_ | refine Heap.set_skip (by omega) ?_ | refine Heap.new_skip (by ((repeat first | apply Heap.nx_set | apply Heap.nx_new | apply Heap.nx_kill | apply Heap.nx_room); first | assumption | rfl)) (by omega) ?_ | refine Exd.skip (by assumption) (by omega) ?_); first | assumption | exact Heap.set_at (by omega) | exact Heap.new_at (by ((repeat first | apply Heap.nx_set | apply Heap.nx_new | apply Heap.nx_kill | apply Heap.nx_room); first | assumption | rfl)) (by omega))) ?_
      | refine GETM.mk (by ((repeat first | refine Heap.room_get ?_ | refine Heap.set_skip (by omega) ?_ | refine Heap.new_skip (by ((repeat first | apply Heap.nx_set | apply Heap.nx_new | apply Heap.nx_kill | apply Heap.nx_room); first | assumption | rfl)) (by omega) ?_ | refine Exd.skip (by assumption) (by omega) ?_); first | assumption | exact Heap.set_at (by omega) | exact Heap.new_at (by ((repeat first | apply Heap.nx_set | apply Heap.nx_new | apply Heap.nx_kill | apply Heap.nx_room); first | assumption | rfl)) (by omega))) ?_
      | refine NEWN.mk (by ((repeat first | apply Heap.nx_set | apply Heap.nx_new | apply Heap.nx_kill | apply Heap.nx_room); first | assumption | rfl)) ?_
      | refine SETN.mk (by ((repeat first | refine Heap.room_get ?_ | refine Heap.set_skip (by omega) ?_ | refine Heap.new_skip (by ((repeat first | apply Heap.nx_set | apply Heap.nx_new | apply Heap.nx_kill | apply Heap.nx_room); first | assumption | rfl)) (by omega) ?_ | refine Exd.skip (by assumption) (by omega) ?_); first | assumption | exact Heap.set_at (by omega) | exact Heap.new_at (by ((repeat first | apply Heap.nx_set | apply Heap.nx_new | apply Heap.nx_kill | apply Heap.nx_room); first | assumption | rfl)) (by omega))) (by rfl) (by (first | decide | (simp; done) | (simp; omega))) ?_
      | refine DOESN.mk (by first | rfl | omega | (simp; done) | (simp; omega)) ?_
      | refine BC.yes (by assumption) ?_
      | refine BC.no (by assumption) ?_
      | refine BC.split (fun _ => ?_) (fun _ => ?_)
      | refine SOMEN.mk (by rfl) ?_
      | refine scopeC ?_
      | refine drawC0 (hist := fun _ => Heap.empty 0) rfl ?_
      | refine drawC (hist := fun _ => Heap.empty 0) rfl ?_
      | refine NUMN.mk (by ((repeat first | apply Heap.nx_set | apply Heap.nx_new | apply Heap.nx_kill | apply Heap.nx_room); first | assumption | rfl)) ?_
      | refine LOOKN.mk (by first | exact QV.load rfl (by ((repeat first | refine Heap.room_get ?_ | refine Heap.set_skip (by omega) ?_ | refine Heap.new_skip (by ((repeat first | apply Heap.nx_set | apply Heap.nx_new | apply Heap.nx_kill | apply Heap.nx_room); first | assumption | rfl)) (by omega) ?_ | refine Exd.skip (by assumption) (by omega) ?_); first | assumption | exact Heap.set_at (by omega) | exact Heap.new_at (by ((repeat first | apply Heap.nx_set | apply Heap.nx_new | apply Heap.nx_kill | apply Heap.nx_room); first | assumption | rfl)) (by omega))) (by rfl) | exact QV.loadA rfl (by ((repeat first | refine Heap.room_get ?_ | refine Heap.set_skip (by omega) ?_ | refine Heap.new_skip (by ((repeat first | apply Heap.nx_set | apply Heap.nx_new | apply Heap.nx_kill | apply Heap.nx_room); first | assumption | rfl)) (by omega) ?_ | refine Exd.skip (by assumption) (by omega) ?_); first | assumption | exact Heap.set_at (by omega) | exact Heap.new_at (by ((repeat first | apply Heap.nx_set | apply Heap.nx_new | apply Heap.nx_kill | apply Heap.nx_room); first | assumption | rfl)) (by omega))) (by rfl) (by rfl)) ?_)))
    refine CALLN.of (give_cal hs (rg _ (bl_len i _)) (fun k hk h2 e3 e4 hs u => ?_) (fun h1 no _ _ => (no b (by rw [bl_len]; exact hb) (by rw [bl_get]; simp; omega) (by omega)).elim))
    obtain rfl : k = b := by omega
    rw [bl_set] at hs
    (repeat' ((conv => whnf); (first
      | refine LTN.yes (by omega) ?_
      | refine LTN.no (by omega) ?_
      | refine LTN.mk (fun _ => ?_) (fun _ => ?_)
      | refine EQN.yes (by omega) ?_
      | refine EQN.no (by omega) ?_
      | refine EQN.mk (fun _ => ?_) (fun _ => ?_)
      | refine EQSN.yes (by first | rfl | assumption) ?_
      | refine EQSN.no (by first | decide | assumption) ?_
      | refine EQSN.mk (fun _ => ?_) (fun _ => ?_)
      | refine ARN.in (by omega) ?_
      | refine ARN.fits (by first | (apply u8_in; omega) | (apply i32_in; omega) | (apply u32_in; omega)) ?_
      | refine QUON.pos (by omega) ?_
      | refine REMN.pos (by omega) ?_
      | refine REMN.mk (by omega) ?_
      | refine GETN.mk (by ((repeat first | refine Heap.room_get ?_ | refine Heap.set_skip (by omega) ?_ | refine Heap.new_skip (by ((repeat first | apply Heap.nx_set | apply Heap.nx_new | apply Heap.nx_kill | apply Heap.nx_room); first | assumption | rfl)) (by omega) ?_ | refine Exd.skip (by assumption) (by omega) ?_); first | assumption | exact Heap.set_at (by omega) | exact Heap.new_at (by ((repeat first | apply Heap.nx_set | apply Heap.nx_new | apply Heap.nx_kill | apply Heap.nx_room); first | assumption | rfl)) (by omega))) ?_
      | refine GETM.mk (by ((repeat first | refine Heap.room_get ?_ | refine Heap.set_skip (by omega) ?_ | refine Heap.new_skip (by ((repeat first | apply Heap.nx_set | apply Heap.nx_new | apply Heap.nx_kill | apply Heap.nx_room); first | assumption | rfl)) (by omega) ?_ | refine Exd.skip (by assumption) (by omega) ?_); first | assumption | exact Heap.set_at (by omega) | exact Heap.new_at (by ((repeat first | apply Heap.nx_set | apply Heap.nx_new | apply Heap.nx_kill | apply Heap.nx_room); first | assumption | rfl)) (by omega))) ?_
      | refine NEWN.mk (by ((repeat first | apply Heap.nx_set | apply Heap.nx_new | apply Heap.nx_kill | apply Heap.nx_room); first | assumption | rfl)) ?_
      | refine SETN.mk (by ((repeat first | refine Heap.room_get ?_ | refine Heap.set_skip (by omega) ?_ | refine Heap.new_skip (by ((repeat first | apply Heap.nx_set | apply Heap.nx_new | apply Heap.nx_kill | apply Heap.nx_room); first | assumption | rfl)) (by omega) ?_ | refine Exd.skip (by assumption) (by omega) ?_); first | assumption | exact Heap.set_at (by omega) | exact Heap.new_at (by ((repeat first | apply Heap.nx_set | apply Heap.nx_new | apply Heap.nx_kill | apply Heap.nx_room); first | assumption | rfl)) (by omega))) (by rfl) (by (first | decide | (simp; done) | (simp; omega))) ?_
      | refine DOESN.mk (by first | rfl | omega | (simp; done) | (simp; omega)) ?_
      | refine BC.yes (by assumption) ?_
      | refine BC.no (by assumption) ?_
      | refine BC.split (fun _ => ?_) (fun _ => ?_)
      | refine SOMEN.mk (by rfl) ?_
      | refine scopeC ?_
      | refine drawC0 (hist := fun _ => Heap.empty 0) rfl ?_
      | refine drawC (hist := fun _ => Heap.empty 0) rfl ?_
      | refine NUMN.mk (by ((repeat first | apply Heap.nx_set | apply Heap.nx_new | apply Heap.nx_kill | apply Heap.nx_room); first | assumption | rfl)) ?_
      | refine LOOKN.mk (by first | exact QV.load rfl (by ((repeat first | refine Heap.room_get ?_ | refine Heap.set_skip (by omega) ?_ | refine Heap.new_skip (by ((repeat first | apply Heap.nx_set | apply Heap.nx_new | apply Heap.nx_kill | apply Heap.nx_room); first | assumption | rfl)) (by omega) ?_ | refine Exd.skip (by assumption) (by omega) ?_); first | assumption | exact Heap.set_at (by omega) | exact Heap.new_at (by ((repeat first | apply Heap.nx_set | apply Heap.nx_new | apply Heap.nx_kill | apply Heap.nx_room); first | assumption | rfl)) (by omega))) (by rfl) | exact QV.loadA rfl (by ((repeat first | refine Heap.room_get ?_ | refine Heap.set_skip (by omega) ?_ | refine Heap.new_skip (by ((repeat first | apply Heap.nx_set | apply Heap.nx_new | apply Heap.nx_kill | apply Heap.nx_room); first | assumption | rfl)) (by omega) ?_ | refine Exd.skip (by assumption) (by omega) ?_); first | assumption | exact Heap.set_at (by omega) | exact Heap.new_at (by ((repeat first | apply Heap.nx_set | apply Heap.nx_new | apply Heap.nx_kill | apply Heap.nx_room); first | assumption | rfl)) (by omega))) (by rfl) (by rfl)) ?_)))
    refine CALLN.of (give_cal hs (rg _ (bl_len i _)) (fun m hm h3 e5 e6 hs u => ?_) (fun h3 _ hs _ => ?_))
    · obtain rfl : m = j := by omega
      rw [bl_get] at e5; simp at e5
    (repeat' ((conv => whnf); (first
      | refine LTN.yes (by omega) ?_
      | refine LTN.no (by omega) ?_
      | refine LTN.mk (fun _ => ?_) (fun _ => ?_)
      | refine EQN.yes (by omega) ?_
      | refine EQN.no (by omega) ?_
      | refine EQN.mk (fun _ => ?_) (fun _ => ?_)
      | refine EQSN.yes (by first | rfl | assumption) ?_
      | refine EQSN.no (by first | decide | assumption) ?_
      | refine EQSN.mk (fun _ => ?_) (fun _ => ?_)
      | refine ARN.in (by omega) ?_
      | refine ARN.fits (by first | (apply u8_in; omega) | (apply i32_in; omega) | (apply u32_in; omega)) ?_
      | refine QUON.pos (by omega) ?_
      | refine REMN.pos (by omega) ?_
      | refine REMN.mk (by omega) ?_
      | refine GETN.mk (by ((repeat first | refine Heap.room_get ?_ | refine Heap.set_skip (by omega) ?_ | refine Heap.new_skip (by ((repeat first | apply Heap.nx_set | apply Heap.nx_new | apply Heap.nx_kill | apply Heap.nx_room); first | assumption | rfl)) (by omega) ?_ | refine Exd.skip (by assumption) (by omega) ?_); first | assumption | exact Heap.set_at (by omega) | exact Heap.new_at (by ((repeat first | apply Heap.nx_set | apply Heap.nx_new | apply Heap.nx_kill | apply Heap.nx_room); first | assumption | rfl)) (by omega))) ?_
      | refine GETM.mk (by ((repeat first | refine Heap.room_get ?_ | refine Heap.set_skip (by omega) ?_ | refine Heap.new_skip (by ((repeat first | apply Heap.nx_set | apply Heap.nx_new | apply Heap.nx_kill | apply Heap.nx_room); first | assumption | rfl)) (by omega) ?_ | refine Exd.skip (by assumption) (by omega) ?_); first | assumption | exact Heap.set_at (by omega) | exact Heap.new_at (by ((repeat first | apply Heap.nx_set | apply Heap.nx_new | apply Heap.nx_kill | apply Heap.nx_room); first | assumption | rfl)) (by omega))) ?_
      | refine NEWN.mk (by ((repeat first | apply Heap.nx_set | apply Heap.nx_new | apply Heap.nx_kill | apply Heap.nx_room); first | assumption | rfl)) ?_
      | refine SETN.mk (by ((repeat first | refine Heap.room_get ?_ | refine Heap.set_skip (by omega) ?_ | refine Heap.new_skip (by ((repeat first | apply Heap.nx_set | apply Heap.nx_new | apply Heap.nx_kill | apply Heap.nx_room); first | assumption | rfl)) (by omega) ?_ | refine Exd.skip (by assumption) (by omega) ?_); first | assumption | exact Heap.set_at (by omega) | exact Heap.new_at (by ((repeat first | apply Heap.nx_set | apply Heap.nx_new | apply Heap.nx_kill | apply Heap.nx_room); first | assumption | rfl)) (by omega))) (by rfl) (by (first | decide | (simp; done) | (simp; omega))) ?_
      | refine DOESN.mk (by first | rfl | omega | (simp; done) | (simp; omega)) ?_
      | refine BC.yes (by assumption) ?_
      | refine BC.no (by assumption) ?_
      | refine BC.split (fun _ => ?_) (fun _ => ?_)
      | refine SOMEN.mk (by rfl) ?_
      | refine scopeC ?_
      | refine drawC0 (hist := fun _ => Heap.empty 0) rfl ?_
      | refine drawC (hist := fun _ => Heap.empty 0) rfl ?_
      | refine NUMN.mk (by ((repeat first | apply Heap.nx_set | apply Heap.nx_new | apply Heap.nx_kill | apply Heap.nx_room); first | assumption | rfl)) ?_
      | refine LOOKN.mk (by first | exact QV.load rfl (by ((repeat first | refine Heap.room_get ?_ | refine Heap.set_skip (by omega) ?_ | refine Heap.new_skip (by ((repeat first | apply Heap.nx_set | apply Heap.nx_new | apply Heap.nx_kill | apply Heap.nx_room); first | assumption | rfl)) (by omega) ?_ | refine Exd.skip (by assumption) (by omega) ?_); first | assumption | exact Heap.set_at (by omega) | exact Heap.new_at (by ((repeat first | apply Heap.nx_set | apply Heap.nx_new | apply Heap.nx_kill | apply Heap.nx_room); first | assumption | rfl)) (by omega))) (by rfl) | exact QV.loadA rfl (by ((repeat first | refine Heap.room_get ?_ | refine Heap.set_skip (by omega) ?_ | refine Heap.new_skip (by ((repeat first | apply Heap.nx_set | apply Heap.nx_new | apply Heap.nx_kill | apply Heap.nx_room); first | assumption | rfl)) (by omega) ?_ | refine Exd.skip (by assumption) (by omega) ?_); first | assumption | exact Heap.set_at (by omega) | exact Heap.new_at (by ((repeat first | apply Heap.nx_set | apply Heap.nx_new | apply Heap.nx_kill | apply Heap.nx_room); first | assumption | rfl)) (by omega))) (by rfl) (by rfl)) ?_)))
    refine CALLN.of (give_cal hs (rg _ (bl_len i _)) (fun m hm h3 e5 e6 hs u => by exfalso; omega) (fun h3 _ hs _ => ?_))
    (repeat' ((conv => whnf); (first
      | refine LTN.yes (by omega) ?_
      | refine LTN.no (by omega) ?_
      | refine LTN.mk (fun _ => ?_) (fun _ => ?_)
      | refine EQN.yes (by omega) ?_
      | refine EQN.no (by omega) ?_
      | refine EQN.mk (fun _ => ?_) (fun _ => ?_)
      | refine EQSN.yes (by first | rfl | assumption) ?_
      | refine EQSN.no (by first | decide | assumption) ?_
      | refine EQSN.mk (fun _ => ?_) (fun _ => ?_)
      | refine ARN.in (by omega) ?_
      | refine ARN.fits (by first | (apply u8_in; omega) | (apply i32_in; omega) | (apply u32_in; omega)) ?_
      | refine QUON.pos (by omega) ?_
      | refine REMN.pos (by omega) ?_
      | refine REMN.mk (by omega) ?_
      | refine GETN.mk (by ((repeat first | refine Heap.room_get ?_ | refine Heap.set_skip (by omega) ?_ | refine Heap.new_skip (by ((repeat first | apply Heap.nx_set | apply Heap.nx_new | apply Heap.nx_kill | apply Heap.nx_room); first | assumption | rfl)) (by omega) ?_ | refine Exd.skip (by assumption) (by omega) ?_); first | assumption | exact Heap.set_at (by omega) | exact Heap.new_at (by ((repeat first | apply Heap.nx_set | apply Heap.nx_new | apply Heap.nx_kill | apply Heap.nx_room); first | assumption | rfl)) (by omega))) ?_
      | refine GETM.mk (by ((repeat first | refine Heap.room_get ?_ | refine Heap.set_skip (by omega) ?_ | refine Heap.new_skip (by ((repeat first | apply Heap.nx_set | apply Heap.nx_new | apply Heap.nx_kill | apply Heap.nx_room); first | assumption | rfl)) (by omega) ?_ | refine Exd.skip (by assumption) (by omega) ?_); first | assumption | exact Heap.set_at (by omega) | exact Heap.new_at (by ((repeat first | apply Heap.nx_set | apply Heap.nx_new | apply Heap.nx_kill | apply Heap.nx_room); first | assumption | rfl)) (by omega))) ?_
      | refine NEWN.mk (by ((repeat first | apply Heap.nx_set | apply Heap.nx_new | apply Heap.nx_kill | apply Heap.nx_room); first | assumption | rfl)) ?_
      | refine SETN.mk (by ((repeat first | refine Heap.room_get ?_ | refine Heap.set_skip (by omega) ?_ | refine Heap.new_skip (by ((repeat first | apply Heap.nx_set | apply Heap.nx_new | apply Heap.nx_kill | apply Heap.nx_room); first | assumption | rfl)) (by omega) ?_ | refine Exd.skip (by assumption) (by omega) ?_); first | assumption | exact Heap.set_at (by omega) | exact Heap.new_at (by ((repeat first | apply Heap.nx_set | apply Heap.nx_new | apply Heap.nx_kill | apply Heap.nx_room); first | assumption | rfl)) (by omega))) (by rfl) (by (first | decide | (simp; done) | (simp; omega))) ?_
      | refine DOESN.mk (by first | rfl | omega | (simp; done) | (simp; omega)) ?_
      | refine BC.yes (by assumption) ?_
      | refine BC.no (by assumption) ?_
      | refine BC.split (fun _ => ?_) (fun _ => ?_)
      | refine SOMEN.mk (by rfl) ?_
      | refine scopeC ?_
      | refine drawC0 (hist := fun _ => Heap.empty 0) rfl ?_
      | refine drawC (hist := fun _ => Heap.empty 0) rfl ?_
      | refine NUMN.mk (by ((repeat first | apply Heap.nx_set | apply Heap.nx_new | apply Heap.nx_kill | apply Heap.nx_room); first | assumption | rfl)) ?_
      | refine LOOKN.mk (by first | exact QV.load rfl (by ((repeat first | refine Heap.room_get ?_ | refine Heap.set_skip (by omega) ?_ | refine Heap.new_skip (by ((repeat first | apply Heap.nx_set | apply Heap.nx_new | apply Heap.nx_kill | apply Heap.nx_room); first | assumption | rfl)) (by omega) ?_ | refine Exd.skip (by assumption) (by omega) ?_); first | assumption | exact Heap.set_at (by omega) | exact Heap.new_at (by ((repeat first | apply Heap.nx_set | apply Heap.nx_new | apply Heap.nx_kill | apply Heap.nx_room); first | assumption | rfl)) (by omega))) (by rfl) | exact QV.loadA rfl (by ((repeat first | refine Heap.room_get ?_ | refine Heap.set_skip (by omega) ?_ | refine Heap.new_skip (by ((repeat first | apply Heap.nx_set | apply Heap.nx_new | apply Heap.nx_kill | apply Heap.nx_room); first | assumption | rfl)) (by omega) ?_ | refine Exd.skip (by assumption) (by omega) ?_); first | assumption | exact Heap.set_at (by omega) | exact Heap.new_at (by ((repeat first | apply Heap.nx_set | apply Heap.nx_new | apply Heap.nx_kill | apply Heap.nx_room); first | assumption | rfl)) (by omega))) (by rfl) (by rfl)) ?_)))
    refine CALLN.of (take_cal hs (rg _ (bl_len i _)) (fun m h4 e7 hs u => ?_) (fun h' e _ _ => ?_))
    rotate_left
    · rw [bl_first i _ (min j k) (by omega) (by simp; omega) (by intro m hm; simp; omega)] at e; simp at e
    rw [bl_first i _ (min j k) (by omega) (by simp; omega) (by intro m hm; simp; omega)] at e7
    obtain rfl : min j k = m := by simpa using e7
    rw [bl_set] at hs
    (repeat' ((conv => whnf); (first
      | refine LTN.yes (by omega) ?_
      | refine LTN.no (by omega) ?_
      | refine LTN.mk (fun _ => ?_) (fun _ => ?_)
      | refine EQN.yes (by omega) ?_
      | refine EQN.no (by omega) ?_
      | refine EQN.mk (fun _ => ?_) (fun _ => ?_)
      | refine EQSN.yes (by first | rfl | assumption) ?_
      | refine EQSN.no (by first | decide | assumption) ?_
      | refine EQSN.mk (fun _ => ?_) (fun _ => ?_)
      | refine ARN.in (by omega) ?_
      | refine ARN.fits (by first | (apply u8_in; omega) | (apply i32_in; omega) | (apply u32_in; omega)) ?_
      | refine QUON.pos (by omega) ?_
      | refine REMN.pos (by omega) ?_
      | refine REMN.mk (by omega) ?_
      | refine GETN.mk (by ((repeat first | refine Heap.room_get ?_ | refine Heap.set_skip (by omega) ?_ | refine Heap.new_skip (by ((repeat first | apply Heap.nx_set | apply Heap.nx_new | apply Heap.nx_kill | apply Heap.nx_room); first | assumption | rfl)) (by omega) ?_ | refine Exd.skip (by assumption) (by omega) ?_); first | assumption | exact Heap.set_at (by omega) | exact Heap.new_at (by ((repeat first | apply Heap.nx_set | apply Heap.nx_new | apply Heap.nx_kill | apply Heap.nx_room); first | assumption | rfl)) (by omega))) ?_
      | refine GETM.mk (by ((repeat first | refine Heap.room_get ?_ | refine Heap.set_skip (by omega) ?_ | refine Heap.new_skip (by ((repeat first | apply Heap.nx_set | apply Heap.nx_new | apply Heap.nx_kill | apply Heap.nx_room); first | assumption | rfl)) (by omega) ?_ | refine Exd.skip (by assumption) (by omega) ?_); first | assumption | exact Heap.set_at (by omega) | exact Heap.new_at (by ((repeat first | apply Heap.nx_set | apply Heap.nx_new | apply Heap.nx_kill | apply Heap.nx_room); first | assumption | rfl)) (by omega))) ?_
      | refine NEWN.mk (by ((repeat first | apply Heap.nx_set | apply Heap.nx_new | apply Heap.nx_kill | apply Heap.nx_room); first | assumption | rfl)) ?_
      | refine SETN.mk (by ((repeat first | refine Heap.room_get ?_ | refine Heap.set_skip (by omega) ?_ | refine Heap.new_skip (by ((repeat first | apply Heap.nx_set | apply Heap.nx_new | apply Heap.nx_kill | apply Heap.nx_room); first | assumption | rfl)) (by omega) ?_ | refine Exd.skip (by assumption) (by omega) ?_); first | assumption | exact Heap.set_at (by omega) | exact Heap.new_at (by ((repeat first | apply Heap.nx_set | apply Heap.nx_new | apply Heap.nx_kill | apply Heap.nx_room); first | assumption | rfl)) (by omega))) (by rfl) (by (first | decide | (simp; done) | (simp; omega))) ?_
      | refine DOESN.mk (by first | rfl | omega | (simp; done) | (simp; omega)) ?_
      | refine BC.yes (by assumption) ?_
      | refine BC.no (by assumption) ?_
      | refine BC.split (fun _ => ?_) (fun _ => ?_)
      | refine SOMEN.mk (by rfl) ?_
      | refine scopeC ?_
      | refine drawC0 (hist := fun _ => Heap.empty 0) rfl ?_
      | refine drawC (hist := fun _ => Heap.empty 0) rfl ?_
      | refine NUMN.mk (by ((repeat first | apply Heap.nx_set | apply Heap.nx_new | apply Heap.nx_kill | apply Heap.nx_room); first | assumption | rfl)) ?_
      | refine LOOKN.mk (by first | exact QV.load rfl (by ((repeat first | refine Heap.room_get ?_ | refine Heap.set_skip (by omega) ?_ | refine Heap.new_skip (by ((repeat first | apply Heap.nx_set | apply Heap.nx_new | apply Heap.nx_kill | apply Heap.nx_room); first | assumption | rfl)) (by omega) ?_ | refine Exd.skip (by assumption) (by omega) ?_); first | assumption | exact Heap.set_at (by omega) | exact Heap.new_at (by ((repeat first | apply Heap.nx_set | apply Heap.nx_new | apply Heap.nx_kill | apply Heap.nx_room); first | assumption | rfl)) (by omega))) (by rfl) | exact QV.loadA rfl (by ((repeat first | refine Heap.room_get ?_ | refine Heap.set_skip (by omega) ?_ | refine Heap.new_skip (by ((repeat first | apply Heap.nx_set | apply Heap.nx_new | apply Heap.nx_kill | apply Heap.nx_room); first | assumption | rfl)) (by omega) ?_ | refine Exd.skip (by assumption) (by omega) ?_); first | assumption | exact Heap.set_at (by omega) | exact Heap.new_at (by ((repeat first | apply Heap.nx_set | apply Heap.nx_new | apply Heap.nx_kill | apply Heap.nx_room); first | assumption | rfl)) (by omega))) (by rfl) (by rfl)) ?_)))
    refine CALLN.of (take_cal hs (rg _ (bl_len i _)) (fun m h4 e7 hs u => ?_) (fun h' e _ _ => ?_))
    rotate_left
    · rw [bl_first i _ (max j k) (by omega) (by simp; omega) (by intro m hm; simp; omega)] at e; simp at e
    rw [bl_first i _ (max j k) (by omega) (by simp; omega) (by intro m hm; simp; omega)] at e7
    obtain rfl : max j k = m := by simpa using e7
    rw [bl_set] at hs
    (repeat' ((conv => whnf); (first
      | refine LTN.yes (by omega) ?_
      | refine LTN.no (by omega) ?_
      | refine LTN.mk (fun _ => ?_) (fun _ => ?_)
      | refine EQN.yes (by omega) ?_
      | refine EQN.no (by omega) ?_
      | refine EQN.mk (fun _ => ?_) (fun _ => ?_)
      | refine EQSN.yes (by first | rfl | assumption) ?_
      | refine EQSN.no (by first | decide | assumption) ?_
      | refine EQSN.mk (fun _ => ?_) (fun _ => ?_)
      | refine ARN.in (by omega) ?_
      | refine ARN.fits (by first | (apply u8_in; omega) | (apply i32_in; omega) | (apply u32_in; omega)) ?_
      | refine QUON.pos (by omega) ?_
      | refine REMN.pos (by omega) ?_
      | refine REMN.mk (by omega) ?_
      | refine GETN.mk (by ((repeat first | refine Heap.room_get ?_ | refine Heap.set_skip (by omega) ?_ | refine Heap.new_skip (by ((repeat first | apply Heap.nx_set | apply Heap.nx_new | apply Heap.nx_kill | apply Heap.nx_room); first | assumption | rfl)) (by omega) ?_ | refine Exd.skip (by assumption) (by omega) ?_); first | assumption | exact Heap.set_at (by omega) | exact Heap.new_at (by ((repeat first | apply Heap.nx_set | apply Heap.nx_new | apply Heap.nx_kill | apply Heap.nx_room); first | assumption | rfl)) (by omega))) ?_
      | refine GETM.mk (by ((repeat first | refine Heap.room_get ?_ | refine Heap.set_skip (by omega) ?_ | refine Heap.new_skip (by ((repeat first | apply Heap.nx_set | apply Heap.nx_new | apply Heap.nx_kill | apply Heap.nx_room); first | assumption | rfl)) (by omega) ?_ | refine Exd.skip (by assumption) (by omega) ?_); first | assumption | exact Heap.set_at (by omega) | exact Heap.new_at (by ((repeat first | apply Heap.nx_set | apply Heap.nx_new | apply Heap.nx_kill | apply Heap.nx_room); first | assumption | rfl)) (by omega))) ?_
      | refine NEWN.mk (by ((repeat first | apply Heap.nx_set | apply Heap.nx_new | apply Heap.nx_kill | apply Heap.nx_room); first | assumption | rfl)) ?_
      | refine SETN.mk (by ((repeat first | refine Heap.room_get ?_ | refine Heap.set_skip (by omega) ?_ | refine Heap.new_skip (by ((repeat first | apply Heap.nx_set | apply Heap.nx_new | apply Heap.nx_kill | apply Heap.nx_room); first | assumption | rfl)) (by omega) ?_ | refine Exd.skip (by assumption) (by omega) ?_); first | assumption | exact Heap.set_at (by omega) | exact Heap.new_at (by ((repeat first | apply Heap.nx_set | apply Heap.nx_new | apply Heap.nx_kill | apply Heap.nx_room); first | assumption | rfl)) (by omega))) (by rfl) (by (first | decide | (simp; done) | (simp; omega))) ?_
      | refine DOESN.mk (by first | rfl | omega | (simp; done) | (simp; omega)) ?_
      | refine BC.yes (by assumption) ?_
      | refine BC.no (by assumption) ?_
      | refine BC.split (fun _ => ?_) (fun _ => ?_)
      | refine SOMEN.mk (by rfl) ?_
      | refine scopeC ?_
      | refine drawC0 (hist := fun _ => Heap.empty 0) rfl ?_
      | refine drawC (hist := fun _ => Heap.empty 0) rfl ?_
      | refine NUMN.mk (by ((repeat first | apply Heap.nx_set | apply Heap.nx_new | apply Heap.nx_kill | apply Heap.nx_room); first | assumption | rfl)) ?_
      | refine LOOKN.mk (by first | exact QV.load rfl (by ((repeat first | refine Heap.room_get ?_ | refine Heap.set_skip (by omega) ?_ | refine Heap.new_skip (by ((repeat first | apply Heap.nx_set | apply Heap.nx_new | apply Heap.nx_kill | apply Heap.nx_room); first | assumption | rfl)) (by omega) ?_ | refine Exd.skip (by assumption) (by omega) ?_); first | assumption | exact Heap.set_at (by omega) | exact Heap.new_at (by ((repeat first | apply Heap.nx_set | apply Heap.nx_new | apply Heap.nx_kill | apply Heap.nx_room); first | assumption | rfl)) (by omega))) (by rfl) | exact QV.loadA rfl (by ((repeat first | refine Heap.room_get ?_ | refine Heap.set_skip (by omega) ?_ | refine Heap.new_skip (by ((repeat first | apply Heap.nx_set | apply Heap.nx_new | apply Heap.nx_kill | apply Heap.nx_room); first | assumption | rfl)) (by omega) ?_ | refine Exd.skip (by assumption) (by omega) ?_); first | assumption | exact Heap.set_at (by omega) | exact Heap.new_at (by ((repeat first | apply Heap.nx_set | apply Heap.nx_new | apply Heap.nx_kill | apply Heap.nx_room); first | assumption | rfl)) (by omega))) (by rfl) (by rfl)) ?_)))
    refine CALLN.of (take_cal hs (rg _ (bl_len i _)) (fun m h4 e7 hs u => ?_) (fun h' e _ _ => ?_))
    · rw [bl_none i _ (by intro m hm; simp; omega)] at e7; simp at e7
    (repeat' ((conv => whnf); (first
      | refine CALLN.of (awake3_cal ?_)
      | refine LTN.yes (by omega) ?_
      | refine LTN.no (by omega) ?_
      | refine LTN.mk (fun _ => ?_) (fun _ => ?_)
      | refine EQN.yes (by omega) ?_
      | refine EQN.no (by omega) ?_
      | refine EQN.mk (fun _ => ?_) (fun _ => ?_)
      | refine EQSN.yes (by first | rfl | assumption) ?_
      | refine EQSN.no (by first | decide | assumption) ?_
      | refine EQSN.mk (fun _ => ?_) (fun _ => ?_)
      | refine ARN.in (by omega) ?_
      | refine ARN.fits (by first | (apply u8_in; omega) | (apply i32_in; omega) | (apply u32_in; omega)) ?_
      | refine QUON.pos (by omega) ?_
      | refine REMN.pos (by omega) ?_
      | refine REMN.mk (by omega) ?_
      | refine GETN.mk (by ((repeat first | refine Heap.room_get ?_ | refine Heap.set_skip (by omega) ?_ | refine Heap.new_skip (by ((repeat first | apply Heap.nx_set | apply Heap.nx_new | apply Heap.nx_kill | apply Heap.nx_room); first | assumption | rfl)) (by omega) ?_ | refine Exd.skip (by assumption) (by omega) ?_); first | assumption | exact Heap.set_at (by omega) | exact Heap.new_at (by ((repeat first | apply Heap.nx_set | apply Heap.nx_new | apply Heap.nx_kill | apply Heap.nx_room); first | assumption | rfl)) (by omega))) ?_
      | refine GETM.mk (by ((repeat first | refine Heap.room_get ?_ | refine Heap.set_skip (by omega) ?_ | refine Heap.new_skip (by ((repeat first | apply Heap.nx_set | apply Heap.nx_new | apply Heap.nx_kill | apply Heap.nx_room); first | assumption | rfl)) (by omega) ?_ | refine Exd.skip (by assumption) (by omega) ?_); first | assumption | exact Heap.set_at (by omega) | exact Heap.new_at (by ((repeat first | apply Heap.nx_set | apply Heap.nx_new | apply Heap.nx_kill | apply Heap.nx_room); first | assumption | rfl)) (by omega))) ?_
      | refine NEWN.mk (by ((repeat first | apply Heap.nx_set | apply Heap.nx_new | apply Heap.nx_kill | apply Heap.nx_room); first | assumption | rfl)) ?_
      | refine SETN.mk (by ((repeat first | refine Heap.room_get ?_ | refine Heap.set_skip (by omega) ?_ | refine Heap.new_skip (by ((repeat first | apply Heap.nx_set | apply Heap.nx_new | apply Heap.nx_kill | apply Heap.nx_room); first | assumption | rfl)) (by omega) ?_ | refine Exd.skip (by assumption) (by omega) ?_); first | assumption | exact Heap.set_at (by omega) | exact Heap.new_at (by ((repeat first | apply Heap.nx_set | apply Heap.nx_new | apply Heap.nx_kill | apply Heap.nx_room); first | assumption | rfl)) (by omega))) (by rfl) (by (first | decide | (simp; done) | (simp; omega))) ?_
      | refine DOESN.mk (by first | rfl | omega | (simp; done) | (simp; omega)) ?_
      | refine BC.yes (by assumption) ?_
      | refine BC.no (by assumption) ?_
      | refine BC.split (fun _ => ?_) (fun _ => ?_)
      | refine SOMEN.mk (by rfl) ?_
      | refine scopeC ?_
      | refine drawC0 (hist := fun _ => Heap.empty 0) rfl ?_
      | refine drawC (hist := fun _ => Heap.empty 0) rfl ?_
      | refine NUMN.mk (by ((repeat first | apply Heap.nx_set | apply Heap.nx_new | apply Heap.nx_kill | apply Heap.nx_room); first | assumption | rfl)) ?_
      | refine LOOKN.mk (by first | exact QV.load rfl (by ((repeat first | refine Heap.room_get ?_ | refine Heap.set_skip (by omega) ?_ | refine Heap.new_skip (by ((repeat first | apply Heap.nx_set | apply Heap.nx_new | apply Heap.nx_kill | apply Heap.nx_room); first | assumption | rfl)) (by omega) ?_ | refine Exd.skip (by assumption) (by omega) ?_); first | assumption | exact Heap.set_at (by omega) | exact Heap.new_at (by ((repeat first | apply Heap.nx_set | apply Heap.nx_new | apply Heap.nx_kill | apply Heap.nx_room); first | assumption | rfl)) (by omega))) (by rfl) | exact QV.loadA rfl (by ((repeat first | refine Heap.room_get ?_ | refine Heap.set_skip (by omega) ?_ | refine Heap.new_skip (by ((repeat first | apply Heap.nx_set | apply Heap.nx_new | apply Heap.nx_kill | apply Heap.nx_room); first | assumption | rfl)) (by omega) ?_ | refine Exd.skip (by assumption) (by omega) ?_); first | assumption | exact Heap.set_at (by omega) | exact Heap.new_at (by ((repeat first | apply Heap.nx_set | apply Heap.nx_new | apply Heap.nx_kill | apply Heap.nx_room); first | assumption | rfl)) (by omega))) (by rfl) (by rfl)) ?_)))
    all_goals first | rfl | (exfalso; rename_i e; simp at e; omega)
end Go.Proofs.Ythcmiceheohpjaa.Cm
