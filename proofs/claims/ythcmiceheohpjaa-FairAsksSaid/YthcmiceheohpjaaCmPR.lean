/-
  Steps of chapter 34, part 6: the reference's Work.
-/
import Derived.Test.YthcmiceheohpjaaCmPZ
namespace Go.Proofs.Ythcmiceheohpjaa.Cm
open Go.RowKit Go.IntWalk
attribute [local irreducible] Heap.set Heap.new Heap.kill Heap.get Heap.room Cal WP

/-- The most so far. -/
def MostR (S : List Stp) (i j : Nat) (w : Int) : Prop := (0 ≤ w ∧ w ≤ S.length) ∧ (∀ t (ht : t < S.length), t < i → ∀ x ∈ S[t].holds, rnL x (S.drop t) ≤ w) ∧ (∀ (hi : i < S.length) m (hm : m < S[i].holds.length), m < j → rnL S[i].holds[m] (S.drop i) ≤ w) ∧ (w = 0 ∨ ∃ t, ∃ ht : t < S.length, ∃ x ∈ S[t].holds, w = rnL x (S.drop t))
theorem MostR.next {S : List Stp} {i j : Nat} {w : Int} (h : MostR S i j w) (hi : i < S.length) (hj : j < S[i].holds.length) : MostR S i (j + 1) (max w (rnL S[i].holds[j] (S.drop i))) := by
  obtain ⟨h1, h2, h3, h4⟩ := h
  have n0 := rnL_nonneg S[i].holds[j] (S.drop i)
  have n1 := rnL_len S[i].holds[j] (S.drop i)
  rw [List.length_drop] at n1
  refine ⟨by omega, fun t ht hti x hx => ?_, fun hi' m hm hmj => ?_, ?_⟩
  · have := h2 t ht hti x hx; omega
  · rcases Nat.lt_or_ge m j with h5 | h5
    · have := h3 hi m hm h5; omega
    · obtain rfl : m = j := by omega
      omega
  · rcases Int.le_total (rnL S[i].holds[j] (S.drop i)) w with h5 | h5
    · rw [Int.max_eq_left h5]; exact h4
    · rw [Int.max_eq_right h5]; exact .inr ⟨i, hi, _, List.getElem_mem hj, rfl⟩
theorem MostR.row {S : List Stp} {i : Nat} {w : Int} (hi : i < S.length) {j : Nat} (hj : S[i].holds.length ≤ j) (h : MostR S i j w) : MostR S (i + 1) 0 w := by
  obtain ⟨h1, h2, h3, h4⟩ := h
  refine ⟨h1, fun t ht hti x hx => ?_, fun _ m _ hm => by omega, h4⟩
  rcases Nat.lt_or_ge t i with h5 | h5
  · exact h2 t ht h5 x hx
  · obtain rfl : t = i := by omega
    obtain ⟨m, hm, e⟩ := List.getElem_of_mem hx
    rw [← e]; exact h3 hi m hm (by omega)
theorem MostR.done {S : List Stp} {i : Nat} {w : Int} (hi : S.length ≤ i) (h : MostR S i 0 w) : WorkR S w := ⟨h.1.1, fun t ht x hx => h.2.1 t ht (by omega) x hx, h.2.2.2⟩

set_option maxHeartbeats 4000000 in
theorem workR_cal {v : CVal} {S : List Stp} {h : Heap} {Q : CVal → Heap → Prop} (hv : RS h v S) (hl : SmallS S) (k : ∀ w, WorkR S w → (0 ≤ w ∧ w ≤ S.length) → Q (.int .i64 w) h) : Cal tt 20 [v] h Q := by
  have hl0 := hl
  have hl := hl.1
  refine Cal.run rfl rfl rfl rfl ?_
  rcases hv with ⟨rfl, rfl⟩ | ⟨i, o, c, rfl, hc, hi, hr⟩
  · (repeat' ((conv => whnf); (first
      | (refine LTN.yes (by omega) ?_)
      | (refine LTN.no (by omega) ?_)
      | (refine LTN.mk (fun _ => ?_) (fun _ => ?_))
      | (refine EQN.yes (by omega) ?_)
      | (refine EQN.no (by omega) ?_)
      | (refine EQN.mk (fun _ => ?_) (fun _ => ?_))
      | (refine EQSN.yes (by first | rfl | assumption) ?_)
      | (refine EQSN.no (by first | decide | assumption) ?_)
      | (refine EQSN.mk (fun _ => ?_) (fun _ => ?_))
      | (refine ARN.in (by omega) ?_)
      | (refine ARN.fits (by first | (apply u8_in; omega) | (apply i32_in; omega) | (apply u32_in; omega)) ?_)
      | (refine QUON.pos (by omega) ?_)
      | (refine REMN.pos (by omega) ?_)
      | (refine REMN.mk (by omega) ?_)
      | (show GETN _ _ _; refine GETN.mk (by ((repeat first | refine Heap.room_get ?_ | refine Heap.set_skip (by omega) ?_ | refine Heap.new_skip (by ((repeat first | apply Heap.nx_set | apply Heap.nx_new | apply Heap.nx_kill | apply Heap.nx_room); first | assumption | rfl)) (by omega) ?_ | refine Exd.skip (by assumption) (by omega) ?_); first | assumption | exact Heap.set_at (by omega) | exact Heap.new_at (by ((repeat first | apply Heap.nx_set | apply Heap.nx_new | apply Heap.nx_kill | apply Heap.nx_room); first | assumption | rfl)) (by omega))) ?_)
      | (show GETM _ _ _; refine GETM.mk (by ((repeat first | refine Heap.room_get ?_ | refine Heap.set_skip (by omega) ?_ | refine Heap.new_skip (by ((repeat first | apply Heap.nx_set | apply Heap.nx_new | apply Heap.nx_kill | apply Heap.nx_room); first | assumption | rfl)) (by omega) ?_ | refine Exd.skip (by assumption) (by omega) ?_); first | assumption | exact Heap.set_at (by omega) | exact Heap.new_at (by ((repeat first | apply Heap.nx_set | apply Heap.nx_new | apply Heap.nx_kill | apply Heap.nx_room); first | assumption | rfl)) (by omega))) ?_)
      | (show NEWN _ _; refine NEWN.mk (by ((repeat first | apply Heap.nx_set | apply Heap.nx_new | apply Heap.nx_kill | apply Heap.nx_room); first | assumption | rfl)) ?_)
      | (show SETN _ _ _ _ _ _; refine SETN.mk (by ((repeat first | refine Heap.room_get ?_ | refine Heap.set_skip (by omega) ?_ | refine Heap.new_skip (by ((repeat first | apply Heap.nx_set | apply Heap.nx_new | apply Heap.nx_kill | apply Heap.nx_room); first | assumption | rfl)) (by omega) ?_ | refine Exd.skip (by assumption) (by omega) ?_); first | assumption | exact Heap.set_at (by omega) | exact Heap.new_at (by ((repeat first | apply Heap.nx_set | apply Heap.nx_new | apply Heap.nx_kill | apply Heap.nx_room); first | assumption | rfl)) (by omega))) (by rfl) (by (first | decide | (simp; done) | (simp; omega))) ?_)
      | (show DOESN _ _; refine DOESN.mk (by first | rfl | omega | (simp; done) | (simp; omega)) ?_)
      | (refine BC.yes (by assumption) ?_)
      | (refine BC.no (by assumption) ?_)
      | (refine BC.split (fun _ => ?_) (fun _ => ?_))
      | (refine SOMEN.mk (by rfl) ?_)
      | (refine scopeC ?_)
      | (refine drawC0 (hist := fun _ => Heap.empty 0) rfl ?_)
      | (refine drawC (hist := fun _ => Heap.empty 0) rfl ?_)
      | (show NUMN _ _; refine NUMN.mk (by ((repeat first | apply Heap.nx_set | apply Heap.nx_new | apply Heap.nx_kill | apply Heap.nx_room); first | assumption | rfl)) ?_)
      | (show LOOKN _ _ _ _ _ _; refine LOOKN.mk (by first | exact QV.load rfl (by ((repeat first | refine Heap.room_get ?_ | refine Heap.set_skip (by omega) ?_ | refine Heap.new_skip (by ((repeat first | apply Heap.nx_set | apply Heap.nx_new | apply Heap.nx_kill | apply Heap.nx_room); first | assumption | rfl)) (by omega) ?_ | refine Exd.skip (by assumption) (by omega) ?_); first | assumption | exact Heap.set_at (by omega) | exact Heap.new_at (by ((repeat first | apply Heap.nx_set | apply Heap.nx_new | apply Heap.nx_kill | apply Heap.nx_room); first | assumption | rfl)) (by omega))) (by rfl) | exact QV.loadA rfl (by ((repeat first | refine Heap.room_get ?_ | refine Heap.set_skip (by omega) ?_ | refine Heap.new_skip (by ((repeat first | apply Heap.nx_set | apply Heap.nx_new | apply Heap.nx_kill | apply Heap.nx_room); first | assumption | rfl)) (by omega) ?_ | refine Exd.skip (by assumption) (by omega) ?_); first | assumption | exact Heap.set_at (by omega) | exact Heap.new_at (by ((repeat first | apply Heap.nx_set | apply Heap.nx_new | apply Heap.nx_kill | apply Heap.nx_room); first | assumption | rfl)) (by omega))) (by rfl) (by rfl)) ?_)
      | fail)))
    refine loop1 ?_
    (repeat' ((conv => whnf); (first
      | (refine LTN.yes (by omega) ?_)
      | (refine LTN.no (by omega) ?_)
      | (refine LTN.mk (fun _ => ?_) (fun _ => ?_))
      | (refine EQN.yes (by omega) ?_)
      | (refine EQN.no (by omega) ?_)
      | (refine EQN.mk (fun _ => ?_) (fun _ => ?_))
      | (refine EQSN.yes (by first | rfl | assumption) ?_)
      | (refine EQSN.no (by first | decide | assumption) ?_)
      | (refine EQSN.mk (fun _ => ?_) (fun _ => ?_))
      | (refine ARN.in (by omega) ?_)
      | (refine ARN.fits (by first | (apply u8_in; omega) | (apply i32_in; omega) | (apply u32_in; omega)) ?_)
      | (refine QUON.pos (by omega) ?_)
      | (refine REMN.pos (by omega) ?_)
      | (refine REMN.mk (by omega) ?_)
      | (show GETN _ _ _; refine GETN.mk (by ((repeat first | refine Heap.room_get ?_ | refine Heap.set_skip (by omega) ?_ | refine Heap.new_skip (by ((repeat first | apply Heap.nx_set | apply Heap.nx_new | apply Heap.nx_kill | apply Heap.nx_room); first | assumption | rfl)) (by omega) ?_ | refine Exd.skip (by assumption) (by omega) ?_); first | assumption | exact Heap.set_at (by omega) | exact Heap.new_at (by ((repeat first | apply Heap.nx_set | apply Heap.nx_new | apply Heap.nx_kill | apply Heap.nx_room); first | assumption | rfl)) (by omega))) ?_)
      | (show GETM _ _ _; refine GETM.mk (by ((repeat first | refine Heap.room_get ?_ | refine Heap.set_skip (by omega) ?_ | refine Heap.new_skip (by ((repeat first | apply Heap.nx_set | apply Heap.nx_new | apply Heap.nx_kill | apply Heap.nx_room); first | assumption | rfl)) (by omega) ?_ | refine Exd.skip (by assumption) (by omega) ?_); first | assumption | exact Heap.set_at (by omega) | exact Heap.new_at (by ((repeat first | apply Heap.nx_set | apply Heap.nx_new | apply Heap.nx_kill | apply Heap.nx_room); first | assumption | rfl)) (by omega))) ?_)
      | (show NEWN _ _; refine NEWN.mk (by ((repeat first | apply Heap.nx_set | apply Heap.nx_new | apply Heap.nx_kill | apply Heap.nx_room); first | assumption | rfl)) ?_)
      | (show SETN _ _ _ _ _ _; refine SETN.mk (by ((repeat first | refine Heap.room_get ?_ | refine Heap.set_skip (by omega) ?_ | refine Heap.new_skip (by ((repeat first | apply Heap.nx_set | apply Heap.nx_new | apply Heap.nx_kill | apply Heap.nx_room); first | assumption | rfl)) (by omega) ?_ | refine Exd.skip (by assumption) (by omega) ?_); first | assumption | exact Heap.set_at (by omega) | exact Heap.new_at (by ((repeat first | apply Heap.nx_set | apply Heap.nx_new | apply Heap.nx_kill | apply Heap.nx_room); first | assumption | rfl)) (by omega))) (by rfl) (by (first | decide | (simp; done) | (simp; omega))) ?_)
      | (show DOESN _ _; refine DOESN.mk (by first | rfl | omega | (simp; done) | (simp; omega)) ?_)
      | (refine BC.yes (by assumption) ?_)
      | (refine BC.no (by assumption) ?_)
      | (refine BC.split (fun _ => ?_) (fun _ => ?_))
      | (refine SOMEN.mk (by rfl) ?_)
      | (refine scopeC ?_)
      | (refine drawC0 (hist := fun _ => Heap.empty 0) rfl ?_)
      | (refine drawC (hist := fun _ => Heap.empty 0) rfl ?_)
      | (show NUMN _ _; refine NUMN.mk (by ((repeat first | apply Heap.nx_set | apply Heap.nx_new | apply Heap.nx_kill | apply Heap.nx_room); first | assumption | rfl)) ?_)
      | (show LOOKN _ _ _ _ _ _; refine LOOKN.mk (by first | exact QV.load rfl (by ((repeat first | refine Heap.room_get ?_ | refine Heap.set_skip (by omega) ?_ | refine Heap.new_skip (by ((repeat first | apply Heap.nx_set | apply Heap.nx_new | apply Heap.nx_kill | apply Heap.nx_room); first | assumption | rfl)) (by omega) ?_ | refine Exd.skip (by assumption) (by omega) ?_); first | assumption | exact Heap.set_at (by omega) | exact Heap.new_at (by ((repeat first | apply Heap.nx_set | apply Heap.nx_new | apply Heap.nx_kill | apply Heap.nx_room); first | assumption | rfl)) (by omega))) (by rfl) | exact QV.loadA rfl (by ((repeat first | refine Heap.room_get ?_ | refine Heap.set_skip (by omega) ?_ | refine Heap.new_skip (by ((repeat first | apply Heap.nx_set | apply Heap.nx_new | apply Heap.nx_kill | apply Heap.nx_room); first | assumption | rfl)) (by omega) ?_ | refine Exd.skip (by assumption) (by omega) ?_); first | assumption | exact Heap.set_at (by omega) | exact Heap.new_at (by ((repeat first | apply Heap.nx_set | apply Heap.nx_new | apply Heap.nx_kill | apply Heap.nx_room); first | assumption | rfl)) (by omega))) (by rfl) (by rfl)) ?_)
      | fail)))
    exact k 0 ⟨by omega, fun t ht => by simp at ht, .inl rfl⟩ (by simp)
  (repeat' ((conv => whnf); (first
      | (refine LTN.yes (by omega) ?_)
      | (refine LTN.no (by omega) ?_)
      | (refine LTN.mk (fun _ => ?_) (fun _ => ?_))
      | (refine EQN.yes (by omega) ?_)
      | (refine EQN.no (by omega) ?_)
      | (refine EQN.mk (fun _ => ?_) (fun _ => ?_))
      | (refine EQSN.yes (by first | rfl | assumption) ?_)
      | (refine EQSN.no (by first | decide | assumption) ?_)
      | (refine EQSN.mk (fun _ => ?_) (fun _ => ?_))
      | (refine ARN.in (by omega) ?_)
      | (refine ARN.fits (by first | (apply u8_in; omega) | (apply i32_in; omega) | (apply u32_in; omega)) ?_)
      | (refine QUON.pos (by omega) ?_)
      | (refine REMN.pos (by omega) ?_)
      | (refine REMN.mk (by omega) ?_)
      | (show GETN _ _ _; refine GETN.mk (by ((repeat first | refine Heap.room_get ?_ | refine Heap.set_skip (by omega) ?_ | refine Heap.new_skip (by ((repeat first | apply Heap.nx_set | apply Heap.nx_new | apply Heap.nx_kill | apply Heap.nx_room); first | assumption | rfl)) (by omega) ?_ | refine Exd.skip (by assumption) (by omega) ?_); first | assumption | exact Heap.set_at (by omega) | exact Heap.new_at (by ((repeat first | apply Heap.nx_set | apply Heap.nx_new | apply Heap.nx_kill | apply Heap.nx_room); first | assumption | rfl)) (by omega))) ?_)
      | (show GETM _ _ _; refine GETM.mk (by ((repeat first | refine Heap.room_get ?_ | refine Heap.set_skip (by omega) ?_ | refine Heap.new_skip (by ((repeat first | apply Heap.nx_set | apply Heap.nx_new | apply Heap.nx_kill | apply Heap.nx_room); first | assumption | rfl)) (by omega) ?_ | refine Exd.skip (by assumption) (by omega) ?_); first | assumption | exact Heap.set_at (by omega) | exact Heap.new_at (by ((repeat first | apply Heap.nx_set | apply Heap.nx_new | apply Heap.nx_kill | apply Heap.nx_room); first | assumption | rfl)) (by omega))) ?_)
      | (show NEWN _ _; refine NEWN.mk (by ((repeat first | apply Heap.nx_set | apply Heap.nx_new | apply Heap.nx_kill | apply Heap.nx_room); first | assumption | rfl)) ?_)
      | (show SETN _ _ _ _ _ _; refine SETN.mk (by ((repeat first | refine Heap.room_get ?_ | refine Heap.set_skip (by omega) ?_ | refine Heap.new_skip (by ((repeat first | apply Heap.nx_set | apply Heap.nx_new | apply Heap.nx_kill | apply Heap.nx_room); first | assumption | rfl)) (by omega) ?_ | refine Exd.skip (by assumption) (by omega) ?_); first | assumption | exact Heap.set_at (by omega) | exact Heap.new_at (by ((repeat first | apply Heap.nx_set | apply Heap.nx_new | apply Heap.nx_kill | apply Heap.nx_room); first | assumption | rfl)) (by omega))) (by rfl) (by (first | decide | (simp; done) | (simp; omega))) ?_)
      | (show DOESN _ _; refine DOESN.mk (by first | rfl | omega | (simp; done) | (simp; omega)) ?_)
      | (refine BC.yes (by assumption) ?_)
      | (refine BC.no (by assumption) ?_)
      | (refine BC.split (fun _ => ?_) (fun _ => ?_))
      | (refine SOMEN.mk (by rfl) ?_)
      | (refine scopeC ?_)
      | (refine drawC0 (hist := fun _ => Heap.empty 0) rfl ?_)
      | (refine drawC (hist := fun _ => Heap.empty 0) rfl ?_)
      | (show NUMN _ _; refine NUMN.mk (by ((repeat first | apply Heap.nx_set | apply Heap.nx_new | apply Heap.nx_kill | apply Heap.nx_room); first | assumption | rfl)) ?_)
      | (show LOOKN _ _ _ _ _ _; refine LOOKN.mk (by first | exact QV.load rfl (by ((repeat first | refine Heap.room_get ?_ | refine Heap.set_skip (by omega) ?_ | refine Heap.new_skip (by ((repeat first | apply Heap.nx_set | apply Heap.nx_new | apply Heap.nx_kill | apply Heap.nx_room); first | assumption | rfl)) (by omega) ?_ | refine Exd.skip (by assumption) (by omega) ?_); first | assumption | exact Heap.set_at (by omega) | exact Heap.new_at (by ((repeat first | apply Heap.nx_set | apply Heap.nx_new | apply Heap.nx_kill | apply Heap.nx_room); first | assumption | rfl)) (by omega))) (by rfl) | exact QV.loadA rfl (by ((repeat first | refine Heap.room_get ?_ | refine Heap.set_skip (by omega) ?_ | refine Heap.new_skip (by ((repeat first | apply Heap.nx_set | apply Heap.nx_new | apply Heap.nx_kill | apply Heap.nx_room); first | assumption | rfl)) (by omega) ?_ | refine Exd.skip (by assumption) (by omega) ?_); first | assumption | exact Heap.set_at (by omega) | exact Heap.new_at (by ((repeat first | apply Heap.nx_set | apply Heap.nx_new | apply Heap.nx_kill | apply Heap.nx_room); first | assumption | rfl)) (by omega))) (by rfl) (by rfl)) ?_)
      | fail)))
  refine loopC (fun s : Nat × Int => [(0, .slice i o S.length c), (3, .int .i64 s.2), (4, .int .i64 s.1)]) (fun s h' => h' = h ∧ s.1 ≤ S.length ∧ MostR S s.1 0 s.2) (fun s => S.length - s.1) (0, 0) ⟨rfl, rfl, rfl, trivial⟩ ⟨rfl, Nat.zero_le _, ⟨by omega, fun t _ h => by omega, fun _ m _ h => by omega, .inl rfl⟩⟩ ?_
  rintro ⟨j, w⟩ ρ h' ⟨rfl, hj, hm⟩
  simp only at hj hm
  by_cases hjl : j < S.length
  rotate_left
  · (repeat' ((conv => whnf); (first
      | (refine LTN.yes (by omega) ?_)
      | (refine LTN.no (by omega) ?_)
      | (refine LTN.mk (fun _ => ?_) (fun _ => ?_))
      | (refine EQN.yes (by omega) ?_)
      | (refine EQN.no (by omega) ?_)
      | (refine EQN.mk (fun _ => ?_) (fun _ => ?_))
      | (refine EQSN.yes (by first | rfl | assumption) ?_)
      | (refine EQSN.no (by first | decide | assumption) ?_)
      | (refine EQSN.mk (fun _ => ?_) (fun _ => ?_))
      | (refine ARN.in (by omega) ?_)
      | (refine ARN.fits (by first | (apply u8_in; omega) | (apply i32_in; omega) | (apply u32_in; omega)) ?_)
      | (refine QUON.pos (by omega) ?_)
      | (refine REMN.pos (by omega) ?_)
      | (refine REMN.mk (by omega) ?_)
      | (show GETN _ _ _; refine GETN.mk (by ((repeat first | refine Heap.room_get ?_ | refine Heap.set_skip (by omega) ?_ | refine Heap.new_skip (by ((repeat first | apply Heap.nx_set | apply Heap.nx_new | apply Heap.nx_kill | apply Heap.nx_room); first | assumption | rfl)) (by omega) ?_ | refine Exd.skip (by assumption) (by omega) ?_); first | assumption | exact Heap.set_at (by omega) | exact Heap.new_at (by ((repeat first | apply Heap.nx_set | apply Heap.nx_new | apply Heap.nx_kill | apply Heap.nx_room); first | assumption | rfl)) (by omega))) ?_)
      | (show GETM _ _ _; refine GETM.mk (by ((repeat first | refine Heap.room_get ?_ | refine Heap.set_skip (by omega) ?_ | refine Heap.new_skip (by ((repeat first | apply Heap.nx_set | apply Heap.nx_new | apply Heap.nx_kill | apply Heap.nx_room); first | assumption | rfl)) (by omega) ?_ | refine Exd.skip (by assumption) (by omega) ?_); first | assumption | exact Heap.set_at (by omega) | exact Heap.new_at (by ((repeat first | apply Heap.nx_set | apply Heap.nx_new | apply Heap.nx_kill | apply Heap.nx_room); first | assumption | rfl)) (by omega))) ?_)
      | (show NEWN _ _; refine NEWN.mk (by ((repeat first | apply Heap.nx_set | apply Heap.nx_new | apply Heap.nx_kill | apply Heap.nx_room); first | assumption | rfl)) ?_)
      | (show SETN _ _ _ _ _ _; refine SETN.mk (by ((repeat first | refine Heap.room_get ?_ | refine Heap.set_skip (by omega) ?_ | refine Heap.new_skip (by ((repeat first | apply Heap.nx_set | apply Heap.nx_new | apply Heap.nx_kill | apply Heap.nx_room); first | assumption | rfl)) (by omega) ?_ | refine Exd.skip (by assumption) (by omega) ?_); first | assumption | exact Heap.set_at (by omega) | exact Heap.new_at (by ((repeat first | apply Heap.nx_set | apply Heap.nx_new | apply Heap.nx_kill | apply Heap.nx_room); first | assumption | rfl)) (by omega))) (by rfl) (by (first | decide | (simp; done) | (simp; omega))) ?_)
      | (show DOESN _ _; refine DOESN.mk (by first | rfl | omega | (simp; done) | (simp; omega)) ?_)
      | (refine BC.yes (by assumption) ?_)
      | (refine BC.no (by assumption) ?_)
      | (refine BC.split (fun _ => ?_) (fun _ => ?_))
      | (refine SOMEN.mk (by rfl) ?_)
      | (refine scopeC ?_)
      | (refine drawC0 (hist := fun _ => Heap.empty 0) rfl ?_)
      | (refine drawC (hist := fun _ => Heap.empty 0) rfl ?_)
      | (show NUMN _ _; refine NUMN.mk (by ((repeat first | apply Heap.nx_set | apply Heap.nx_new | apply Heap.nx_kill | apply Heap.nx_room); first | assumption | rfl)) ?_)
      | (show LOOKN _ _ _ _ _ _; refine LOOKN.mk (by first | exact QV.load rfl (by ((repeat first | refine Heap.room_get ?_ | refine Heap.set_skip (by omega) ?_ | refine Heap.new_skip (by ((repeat first | apply Heap.nx_set | apply Heap.nx_new | apply Heap.nx_kill | apply Heap.nx_room); first | assumption | rfl)) (by omega) ?_ | refine Exd.skip (by assumption) (by omega) ?_); first | assumption | exact Heap.set_at (by omega) | exact Heap.new_at (by ((repeat first | apply Heap.nx_set | apply Heap.nx_new | apply Heap.nx_kill | apply Heap.nx_room); first | assumption | rfl)) (by omega))) (by rfl) | exact QV.loadA rfl (by ((repeat first | refine Heap.room_get ?_ | refine Heap.set_skip (by omega) ?_ | refine Heap.new_skip (by ((repeat first | apply Heap.nx_set | apply Heap.nx_new | apply Heap.nx_kill | apply Heap.nx_room); first | assumption | rfl)) (by omega) ?_ | refine Exd.skip (by assumption) (by omega) ?_); first | assumption | exact Heap.set_at (by omega) | exact Heap.new_at (by ((repeat first | apply Heap.nx_set | apply Heap.nx_new | apply Heap.nx_kill | apply Heap.nx_room); first | assumption | rfl)) (by omega))) (by rfl) (by rfl)) ?_)
      | fail)))
    exact k w (hm.done (by omega)) hm.1
  rcases hr with rfl | ⟨cs, wr, opn, gg, hcs⟩
  · simp at hjl
  obtain ⟨vr, vh, a1, a2, a3, a4, a5⟩ := hcs j hjl
  have sr : Small S[j].holds := (hl0.2 _ (List.getElem_mem hjl)).2
  have sr' := sr
  unfold Small at sr'
  (repeat' ((conv => whnf); (first
      | (refine LTN.yes (by omega) ?_)
      | (refine LTN.no (by omega) ?_)
      | (refine LTN.mk (fun _ => ?_) (fun _ => ?_))
      | (refine EQN.yes (by omega) ?_)
      | (refine EQN.no (by omega) ?_)
      | (refine EQN.mk (fun _ => ?_) (fun _ => ?_))
      | (refine EQSN.yes (by first | rfl | assumption) ?_)
      | (refine EQSN.no (by first | decide | assumption) ?_)
      | (refine EQSN.mk (fun _ => ?_) (fun _ => ?_))
      | (refine ARN.in (by omega) ?_)
      | (refine ARN.fits (by first | (apply u8_in; omega) | (apply i32_in; omega) | (apply u32_in; omega)) ?_)
      | (refine QUON.pos (by omega) ?_)
      | (refine REMN.pos (by omega) ?_)
      | (refine REMN.mk (by omega) ?_)
      | (show GETN _ _ _; refine GETN.mk (by ((repeat first | refine Heap.room_get ?_ | refine Heap.set_skip (by omega) ?_ | refine Heap.new_skip (by ((repeat first | apply Heap.nx_set | apply Heap.nx_new | apply Heap.nx_kill | apply Heap.nx_room); first | assumption | rfl)) (by omega) ?_ | refine Exd.skip (by assumption) (by omega) ?_); first | assumption | exact Heap.set_at (by omega) | exact Heap.new_at (by ((repeat first | apply Heap.nx_set | apply Heap.nx_new | apply Heap.nx_kill | apply Heap.nx_room); first | assumption | rfl)) (by omega))) ?_)
      | (show GETM _ _ _; refine GETM.mk (by ((repeat first | refine Heap.room_get ?_ | refine Heap.set_skip (by omega) ?_ | refine Heap.new_skip (by ((repeat first | apply Heap.nx_set | apply Heap.nx_new | apply Heap.nx_kill | apply Heap.nx_room); first | assumption | rfl)) (by omega) ?_ | refine Exd.skip (by assumption) (by omega) ?_); first | assumption | exact Heap.set_at (by omega) | exact Heap.new_at (by ((repeat first | apply Heap.nx_set | apply Heap.nx_new | apply Heap.nx_kill | apply Heap.nx_room); first | assumption | rfl)) (by omega))) ?_)
      | (show NEWN _ _; refine NEWN.mk (by ((repeat first | apply Heap.nx_set | apply Heap.nx_new | apply Heap.nx_kill | apply Heap.nx_room); first | assumption | rfl)) ?_)
      | (show SETN _ _ _ _ _ _; refine SETN.mk (by ((repeat first | refine Heap.room_get ?_ | refine Heap.set_skip (by omega) ?_ | refine Heap.new_skip (by ((repeat first | apply Heap.nx_set | apply Heap.nx_new | apply Heap.nx_kill | apply Heap.nx_room); first | assumption | rfl)) (by omega) ?_ | refine Exd.skip (by assumption) (by omega) ?_); first | assumption | exact Heap.set_at (by omega) | exact Heap.new_at (by ((repeat first | apply Heap.nx_set | apply Heap.nx_new | apply Heap.nx_kill | apply Heap.nx_room); first | assumption | rfl)) (by omega))) (by rfl) (by (first | decide | (simp; done) | (simp; omega))) ?_)
      | (show DOESN _ _; refine DOESN.mk (by first | rfl | omega | (simp; done) | (simp; omega)) ?_)
      | (refine BC.yes (by assumption) ?_)
      | (refine BC.no (by assumption) ?_)
      | (refine BC.split (fun _ => ?_) (fun _ => ?_))
      | (refine SOMEN.mk (by rfl) ?_)
      | (refine scopeC ?_)
      | (refine drawC0 (hist := fun _ => Heap.empty 0) rfl ?_)
      | (refine drawC (hist := fun _ => Heap.empty 0) rfl ?_)
      | (show NUMN _ _; refine NUMN.mk (by ((repeat first | apply Heap.nx_set | apply Heap.nx_new | apply Heap.nx_kill | apply Heap.nx_room); first | assumption | rfl)) ?_)
      | (show LOOKN _ _ _ _ _ _; refine LOOKN.mk (by first | exact QV.load rfl (by ((repeat first | refine Heap.room_get ?_ | refine Heap.set_skip (by omega) ?_ | refine Heap.new_skip (by ((repeat first | apply Heap.nx_set | apply Heap.nx_new | apply Heap.nx_kill | apply Heap.nx_room); first | assumption | rfl)) (by omega) ?_ | refine Exd.skip (by assumption) (by omega) ?_); first | assumption | exact Heap.set_at (by omega) | exact Heap.new_at (by ((repeat first | apply Heap.nx_set | apply Heap.nx_new | apply Heap.nx_kill | apply Heap.nx_room); first | assumption | rfl)) (by omega))) (by rfl) | exact QV.loadA rfl (by ((repeat first | refine Heap.room_get ?_ | refine Heap.set_skip (by omega) ?_ | refine Heap.new_skip (by ((repeat first | apply Heap.nx_set | apply Heap.nx_new | apply Heap.nx_kill | apply Heap.nx_room); first | assumption | rfl)) (by omega) ?_ | refine Exd.skip (by assumption) (by omega) ?_); first | assumption | exact Heap.set_at (by omega) | exact Heap.new_at (by ((repeat first | apply Heap.nx_set | apply Heap.nx_new | apply Heap.nx_kill | apply Heap.nx_room); first | assumption | rfl)) (by omega))) (by rfl) (by rfl)) ?_)
      | fail)))
  refine loopC (fun s : Nat × Int => [(0, .slice i o S.length c), (3, .int .i64 s.2), (4, .int .i64 j), (5, .int .i64 s.1)]) (fun s h'' => h'' = h' ∧ s.1 ≤ S[j].holds.length ∧ MostR S j s.1 s.2) (fun s => S[j].holds.length - s.1) (0, w) ⟨rfl, rfl, rfl, rfl, trivial⟩ ⟨rfl, Nat.zero_le _, hm⟩ ?_
  rintro ⟨q, w⟩ ρ h'' ⟨rfl, hq, hm⟩
  simp only at hq hm
  by_cases hql : q < S[j].holds.length
  rotate_left
  · rcases a5 with ⟨rfl, eh⟩ | ⟨ri, ro, rc, rfl, rl, rh⟩
    · have e0 : S[j].holds.length = 0 := by rw [eh]; rfl
      (repeat' ((conv => whnf); (first
      | (refine AT.of (by simpa using a2) ?_)
      | (refine LTN.yes (by omega) ?_)
      | (refine LTN.no (by omega) ?_)
      | (refine LTN.mk (fun _ => ?_) (fun _ => ?_))
      | (refine EQN.yes (by omega) ?_)
      | (refine EQN.no (by omega) ?_)
      | (refine EQN.mk (fun _ => ?_) (fun _ => ?_))
      | (refine EQSN.yes (by first | rfl | assumption) ?_)
      | (refine EQSN.no (by first | decide | assumption) ?_)
      | (refine EQSN.mk (fun _ => ?_) (fun _ => ?_))
      | (refine ARN.in (by omega) ?_)
      | (refine ARN.fits (by first | (apply u8_in; omega) | (apply i32_in; omega) | (apply u32_in; omega)) ?_)
      | (refine QUON.pos (by omega) ?_)
      | (refine REMN.pos (by omega) ?_)
      | (refine REMN.mk (by omega) ?_)
      | (show GETN _ _ _; refine GETN.mk (by ((repeat first | refine Heap.room_get ?_ | refine Heap.set_skip (by omega) ?_ | refine Heap.new_skip (by ((repeat first | apply Heap.nx_set | apply Heap.nx_new | apply Heap.nx_kill | apply Heap.nx_room); first | assumption | rfl)) (by omega) ?_ | refine Exd.skip (by assumption) (by omega) ?_); first | assumption | exact Heap.set_at (by omega) | exact Heap.new_at (by ((repeat first | apply Heap.nx_set | apply Heap.nx_new | apply Heap.nx_kill | apply Heap.nx_room); first | assumption | rfl)) (by omega))) ?_)
      | (show GETM _ _ _; refine GETM.mk (by ((repeat first | refine Heap.room_get ?_ | refine Heap.set_skip (by omega) ?_ | refine Heap.new_skip (by ((repeat first | apply Heap.nx_set | apply Heap.nx_new | apply Heap.nx_kill | apply Heap.nx_room); first | assumption | rfl)) (by omega) ?_ | refine Exd.skip (by assumption) (by omega) ?_); first | assumption | exact Heap.set_at (by omega) | exact Heap.new_at (by ((repeat first | apply Heap.nx_set | apply Heap.nx_new | apply Heap.nx_kill | apply Heap.nx_room); first | assumption | rfl)) (by omega))) ?_)
      | (show NEWN _ _; refine NEWN.mk (by ((repeat first | apply Heap.nx_set | apply Heap.nx_new | apply Heap.nx_kill | apply Heap.nx_room); first | assumption | rfl)) ?_)
      | (show SETN _ _ _ _ _ _; refine SETN.mk (by ((repeat first | refine Heap.room_get ?_ | refine Heap.set_skip (by omega) ?_ | refine Heap.new_skip (by ((repeat first | apply Heap.nx_set | apply Heap.nx_new | apply Heap.nx_kill | apply Heap.nx_room); first | assumption | rfl)) (by omega) ?_ | refine Exd.skip (by assumption) (by omega) ?_); first | assumption | exact Heap.set_at (by omega) | exact Heap.new_at (by ((repeat first | apply Heap.nx_set | apply Heap.nx_new | apply Heap.nx_kill | apply Heap.nx_room); first | assumption | rfl)) (by omega))) (by rfl) (by (first | decide | (simp; done) | (simp; omega))) ?_)
      | (show DOESN _ _; refine DOESN.mk (by first | rfl | omega | (simp; done) | (simp; omega)) ?_)
      | (refine BC.yes (by assumption) ?_)
      | (refine BC.no (by assumption) ?_)
      | (refine BC.split (fun _ => ?_) (fun _ => ?_))
      | (refine SOMEN.mk (by rfl) ?_)
      | (refine scopeC ?_)
      | (refine drawC0 (hist := fun _ => Heap.empty 0) rfl ?_)
      | (refine drawC (hist := fun _ => Heap.empty 0) rfl ?_)
      | (show NUMN _ _; refine NUMN.mk (by ((repeat first | apply Heap.nx_set | apply Heap.nx_new | apply Heap.nx_kill | apply Heap.nx_room); first | assumption | rfl)) ?_)
      | (show LOOKN _ _ _ _ _ _; refine LOOKN.mk (by first | exact QV.load rfl (by ((repeat first | refine Heap.room_get ?_ | refine Heap.set_skip (by omega) ?_ | refine Heap.new_skip (by ((repeat first | apply Heap.nx_set | apply Heap.nx_new | apply Heap.nx_kill | apply Heap.nx_room); first | assumption | rfl)) (by omega) ?_ | refine Exd.skip (by assumption) (by omega) ?_); first | assumption | exact Heap.set_at (by omega) | exact Heap.new_at (by ((repeat first | apply Heap.nx_set | apply Heap.nx_new | apply Heap.nx_kill | apply Heap.nx_room); first | assumption | rfl)) (by omega))) (by rfl) | exact QV.loadA rfl (by ((repeat first | refine Heap.room_get ?_ | refine Heap.set_skip (by omega) ?_ | refine Heap.new_skip (by ((repeat first | apply Heap.nx_set | apply Heap.nx_new | apply Heap.nx_kill | apply Heap.nx_room); first | assumption | rfl)) (by omega) ?_ | refine Exd.skip (by assumption) (by omega) ?_); first | assumption | exact Heap.set_at (by omega) | exact Heap.new_at (by ((repeat first | apply Heap.nx_set | apply Heap.nx_new | apply Heap.nx_kill | apply Heap.nx_room); first | assumption | rfl)) (by omega))) (by rfl) (by rfl)) ?_)
      | fail)))
      exact ⟨rfl, (j + 1, w), ⟨rfl, rfl, rfl, trivial⟩, ⟨rfl, by show j + 1 ≤ S.length; omega, hm.row hjl (by omega)⟩, by show S.length - (j + 1) < S.length - j; omega⟩
    · (repeat' ((conv => whnf); (first
      | (refine AT.of (by simpa using a2) ?_)
      | (refine LTN.yes (by omega) ?_)
      | (refine LTN.no (by omega) ?_)
      | (refine LTN.mk (fun _ => ?_) (fun _ => ?_))
      | (refine EQN.yes (by omega) ?_)
      | (refine EQN.no (by omega) ?_)
      | (refine EQN.mk (fun _ => ?_) (fun _ => ?_))
      | (refine EQSN.yes (by first | rfl | assumption) ?_)
      | (refine EQSN.no (by first | decide | assumption) ?_)
      | (refine EQSN.mk (fun _ => ?_) (fun _ => ?_))
      | (refine ARN.in (by omega) ?_)
      | (refine ARN.fits (by first | (apply u8_in; omega) | (apply i32_in; omega) | (apply u32_in; omega)) ?_)
      | (refine QUON.pos (by omega) ?_)
      | (refine REMN.pos (by omega) ?_)
      | (refine REMN.mk (by omega) ?_)
      | (show GETN _ _ _; refine GETN.mk (by ((repeat first | refine Heap.room_get ?_ | refine Heap.set_skip (by omega) ?_ | refine Heap.new_skip (by ((repeat first | apply Heap.nx_set | apply Heap.nx_new | apply Heap.nx_kill | apply Heap.nx_room); first | assumption | rfl)) (by omega) ?_ | refine Exd.skip (by assumption) (by omega) ?_); first | assumption | exact Heap.set_at (by omega) | exact Heap.new_at (by ((repeat first | apply Heap.nx_set | apply Heap.nx_new | apply Heap.nx_kill | apply Heap.nx_room); first | assumption | rfl)) (by omega))) ?_)
      | (show GETM _ _ _; refine GETM.mk (by ((repeat first | refine Heap.room_get ?_ | refine Heap.set_skip (by omega) ?_ | refine Heap.new_skip (by ((repeat first | apply Heap.nx_set | apply Heap.nx_new | apply Heap.nx_kill | apply Heap.nx_room); first | assumption | rfl)) (by omega) ?_ | refine Exd.skip (by assumption) (by omega) ?_); first | assumption | exact Heap.set_at (by omega) | exact Heap.new_at (by ((repeat first | apply Heap.nx_set | apply Heap.nx_new | apply Heap.nx_kill | apply Heap.nx_room); first | assumption | rfl)) (by omega))) ?_)
      | (show NEWN _ _; refine NEWN.mk (by ((repeat first | apply Heap.nx_set | apply Heap.nx_new | apply Heap.nx_kill | apply Heap.nx_room); first | assumption | rfl)) ?_)
      | (show SETN _ _ _ _ _ _; refine SETN.mk (by ((repeat first | refine Heap.room_get ?_ | refine Heap.set_skip (by omega) ?_ | refine Heap.new_skip (by ((repeat first | apply Heap.nx_set | apply Heap.nx_new | apply Heap.nx_kill | apply Heap.nx_room); first | assumption | rfl)) (by omega) ?_ | refine Exd.skip (by assumption) (by omega) ?_); first | assumption | exact Heap.set_at (by omega) | exact Heap.new_at (by ((repeat first | apply Heap.nx_set | apply Heap.nx_new | apply Heap.nx_kill | apply Heap.nx_room); first | assumption | rfl)) (by omega))) (by rfl) (by (first | decide | (simp; done) | (simp; omega))) ?_)
      | (show DOESN _ _; refine DOESN.mk (by first | rfl | omega | (simp; done) | (simp; omega)) ?_)
      | (refine BC.yes (by assumption) ?_)
      | (refine BC.no (by assumption) ?_)
      | (refine BC.split (fun _ => ?_) (fun _ => ?_))
      | (refine SOMEN.mk (by rfl) ?_)
      | (refine scopeC ?_)
      | (refine drawC0 (hist := fun _ => Heap.empty 0) rfl ?_)
      | (refine drawC (hist := fun _ => Heap.empty 0) rfl ?_)
      | (show NUMN _ _; refine NUMN.mk (by ((repeat first | apply Heap.nx_set | apply Heap.nx_new | apply Heap.nx_kill | apply Heap.nx_room); first | assumption | rfl)) ?_)
      | (show LOOKN _ _ _ _ _ _; refine LOOKN.mk (by first | exact QV.load rfl (by ((repeat first | refine Heap.room_get ?_ | refine Heap.set_skip (by omega) ?_ | refine Heap.new_skip (by ((repeat first | apply Heap.nx_set | apply Heap.nx_new | apply Heap.nx_kill | apply Heap.nx_room); first | assumption | rfl)) (by omega) ?_ | refine Exd.skip (by assumption) (by omega) ?_); first | assumption | exact Heap.set_at (by omega) | exact Heap.new_at (by ((repeat first | apply Heap.nx_set | apply Heap.nx_new | apply Heap.nx_kill | apply Heap.nx_room); first | assumption | rfl)) (by omega))) (by rfl) | exact QV.loadA rfl (by ((repeat first | refine Heap.room_get ?_ | refine Heap.set_skip (by omega) ?_ | refine Heap.new_skip (by ((repeat first | apply Heap.nx_set | apply Heap.nx_new | apply Heap.nx_kill | apply Heap.nx_room); first | assumption | rfl)) (by omega) ?_ | refine Exd.skip (by assumption) (by omega) ?_); first | assumption | exact Heap.set_at (by omega) | exact Heap.new_at (by ((repeat first | apply Heap.nx_set | apply Heap.nx_new | apply Heap.nx_kill | apply Heap.nx_room); first | assumption | rfl)) (by omega))) (by rfl) (by rfl)) ?_)
      | fail)))
      exact ⟨rfl, (j + 1, w), ⟨rfl, rfl, rfl, trivial⟩, ⟨rfl, by show j + 1 ≤ S.length; omega, hm.row hjl (by omega)⟩, by show S.length - (j + 1) < S.length - j; omega⟩
  rcases a5 with ⟨rfl, eh⟩ | ⟨ri, ro, rc, rfl, rl, rh⟩
  · rw [eh] at hql; simp at hql
  rcases rh with rh | ⟨cs', wr', opn', gg', hrs⟩
  · rw [rh] at hql; simp at hql
  (repeat' ((conv => whnf); (first
      | (refine AT.of (by simpa using a2) ?_)
      | (refine AT.of (by simpa using hrs q hql) ?_)
      | (refine LTN.yes (by omega) ?_)
      | (refine LTN.no (by omega) ?_)
      | (refine LTN.mk (fun _ => ?_) (fun _ => ?_))
      | (refine EQN.yes (by omega) ?_)
      | (refine EQN.no (by omega) ?_)
      | (refine EQN.mk (fun _ => ?_) (fun _ => ?_))
      | (refine EQSN.yes (by first | rfl | assumption) ?_)
      | (refine EQSN.no (by first | decide | assumption) ?_)
      | (refine EQSN.mk (fun _ => ?_) (fun _ => ?_))
      | (refine ARN.in (by omega) ?_)
      | (refine ARN.fits (by first | (apply u8_in; omega) | (apply i32_in; omega) | (apply u32_in; omega)) ?_)
      | (refine QUON.pos (by omega) ?_)
      | (refine REMN.pos (by omega) ?_)
      | (refine REMN.mk (by omega) ?_)
      | (show GETN _ _ _; refine GETN.mk (by ((repeat first | refine Heap.room_get ?_ | refine Heap.set_skip (by omega) ?_ | refine Heap.new_skip (by ((repeat first | apply Heap.nx_set | apply Heap.nx_new | apply Heap.nx_kill | apply Heap.nx_room); first | assumption | rfl)) (by omega) ?_ | refine Exd.skip (by assumption) (by omega) ?_); first | assumption | exact Heap.set_at (by omega) | exact Heap.new_at (by ((repeat first | apply Heap.nx_set | apply Heap.nx_new | apply Heap.nx_kill | apply Heap.nx_room); first | assumption | rfl)) (by omega))) ?_)
      | (show GETM _ _ _; refine GETM.mk (by ((repeat first | refine Heap.room_get ?_ | refine Heap.set_skip (by omega) ?_ | refine Heap.new_skip (by ((repeat first | apply Heap.nx_set | apply Heap.nx_new | apply Heap.nx_kill | apply Heap.nx_room); first | assumption | rfl)) (by omega) ?_ | refine Exd.skip (by assumption) (by omega) ?_); first | assumption | exact Heap.set_at (by omega) | exact Heap.new_at (by ((repeat first | apply Heap.nx_set | apply Heap.nx_new | apply Heap.nx_kill | apply Heap.nx_room); first | assumption | rfl)) (by omega))) ?_)
      | (show NEWN _ _; refine NEWN.mk (by ((repeat first | apply Heap.nx_set | apply Heap.nx_new | apply Heap.nx_kill | apply Heap.nx_room); first | assumption | rfl)) ?_)
      | (show SETN _ _ _ _ _ _; refine SETN.mk (by ((repeat first | refine Heap.room_get ?_ | refine Heap.set_skip (by omega) ?_ | refine Heap.new_skip (by ((repeat first | apply Heap.nx_set | apply Heap.nx_new | apply Heap.nx_kill | apply Heap.nx_room); first | assumption | rfl)) (by omega) ?_ | refine Exd.skip (by assumption) (by omega) ?_); first | assumption | exact Heap.set_at (by omega) | exact Heap.new_at (by ((repeat first | apply Heap.nx_set | apply Heap.nx_new | apply Heap.nx_kill | apply Heap.nx_room); first | assumption | rfl)) (by omega))) (by rfl) (by (first | decide | (simp; done) | (simp; omega))) ?_)
      | (show DOESN _ _; refine DOESN.mk (by first | rfl | omega | (simp; done) | (simp; omega)) ?_)
      | (refine BC.yes (by assumption) ?_)
      | (refine BC.no (by assumption) ?_)
      | (refine BC.split (fun _ => ?_) (fun _ => ?_))
      | (refine SOMEN.mk (by rfl) ?_)
      | (refine scopeC ?_)
      | (refine drawC0 (hist := fun _ => Heap.empty 0) rfl ?_)
      | (refine drawC (hist := fun _ => Heap.empty 0) rfl ?_)
      | (show NUMN _ _; refine NUMN.mk (by ((repeat first | apply Heap.nx_set | apply Heap.nx_new | apply Heap.nx_kill | apply Heap.nx_room); first | assumption | rfl)) ?_)
      | (show LOOKN _ _ _ _ _ _; refine LOOKN.mk (by first | exact QV.load rfl (by ((repeat first | refine Heap.room_get ?_ | refine Heap.set_skip (by omega) ?_ | refine Heap.new_skip (by ((repeat first | apply Heap.nx_set | apply Heap.nx_new | apply Heap.nx_kill | apply Heap.nx_room); first | assumption | rfl)) (by omega) ?_ | refine Exd.skip (by assumption) (by omega) ?_); first | assumption | exact Heap.set_at (by omega) | exact Heap.new_at (by ((repeat first | apply Heap.nx_set | apply Heap.nx_new | apply Heap.nx_kill | apply Heap.nx_room); first | assumption | rfl)) (by omega))) (by rfl) | exact QV.loadA rfl (by ((repeat first | refine Heap.room_get ?_ | refine Heap.set_skip (by omega) ?_ | refine Heap.new_skip (by ((repeat first | apply Heap.nx_set | apply Heap.nx_new | apply Heap.nx_kill | apply Heap.nx_room); first | assumption | rfl)) (by omega) ?_ | refine Exd.skip (by assumption) (by omega) ?_); first | assumption | exact Heap.set_at (by omega) | exact Heap.new_at (by ((repeat first | apply Heap.nx_set | apply Heap.nx_new | apply Heap.nx_kill | apply Heap.nx_room); first | assumption | rfl)) (by omega))) (by rfl) (by rfl)) ?_)
      | fail)))
  have nl := rnL_len S[j].holds[q] (S.drop j)
  rw [List.length_drop] at nl
  refine loopC (fun s : Nat × Int => [(0, .slice i o S.length c), (3, .int .i64 w), (4, .int .i64 j), (5, .int .i64 q), (6, .int .i64 S[j].holds[q]), (7, .int .i64 s.2), (8, .int .i64 s.1)])
    (fun s h3 => h3 = h'' ∧ j ≤ s.1 ∧ s.1 ≤ S.length ∧ 0 ≤ s.2 ∧ s.2 + rnL S[j].holds[q] (S.drop s.1) = rnL S[j].holds[q] (S.drop j)) (fun s => S.length - s.1) (j, 0) ⟨rfl, rfl, rfl, rfl, rfl, rfl, rfl, trivial⟩ ⟨rfl, Nat.le_refl _, by omega, Int.le_refl 0, by simp⟩ ?_
  rintro ⟨m, n⟩ ρ h3 ⟨rfl, hjm, hml, hn, hsum⟩
  simp only at hjm hml hn hsum
  have fin : rnL S[j].holds[q] (S.drop m) = 0 → n = rnL S[j].holds[q] (S.drop j) := fun e => by omega
  have rn0 := rnL_nonneg S[j].holds[q] (S.drop m)
  have mx : (0 ≤ w ∧ w ≤ S.length) := hm.1
  by_cases hmm : m < S.length
  rotate_left
  · have en := fin (by rw [List.drop_eq_nil_of_le (by omega)]; rfl)
    (repeat' ((conv => whnf); (first
      | (refine LTN.yes (by omega) ?_)
      | (refine LTN.no (by omega) ?_)
      | (refine LTN.mk (fun _ => ?_) (fun _ => ?_))
      | (refine EQN.yes (by omega) ?_)
      | (refine EQN.no (by omega) ?_)
      | (refine EQN.mk (fun _ => ?_) (fun _ => ?_))
      | (refine EQSN.yes (by first | rfl | assumption) ?_)
      | (refine EQSN.no (by first | decide | assumption) ?_)
      | (refine EQSN.mk (fun _ => ?_) (fun _ => ?_))
      | (refine ARN.in (by omega) ?_)
      | (refine ARN.fits (by first | (apply u8_in; omega) | (apply i32_in; omega) | (apply u32_in; omega)) ?_)
      | (refine QUON.pos (by omega) ?_)
      | (refine REMN.pos (by omega) ?_)
      | (refine REMN.mk (by omega) ?_)
      | (show GETN _ _ _; refine GETN.mk (by ((repeat first | refine Heap.room_get ?_ | refine Heap.set_skip (by omega) ?_ | refine Heap.new_skip (by ((repeat first | apply Heap.nx_set | apply Heap.nx_new | apply Heap.nx_kill | apply Heap.nx_room); first | assumption | rfl)) (by omega) ?_ | refine Exd.skip (by assumption) (by omega) ?_); first | assumption | exact Heap.set_at (by omega) | exact Heap.new_at (by ((repeat first | apply Heap.nx_set | apply Heap.nx_new | apply Heap.nx_kill | apply Heap.nx_room); first | assumption | rfl)) (by omega))) ?_)
      | (show GETM _ _ _; refine GETM.mk (by ((repeat first | refine Heap.room_get ?_ | refine Heap.set_skip (by omega) ?_ | refine Heap.new_skip (by ((repeat first | apply Heap.nx_set | apply Heap.nx_new | apply Heap.nx_kill | apply Heap.nx_room); first | assumption | rfl)) (by omega) ?_ | refine Exd.skip (by assumption) (by omega) ?_); first | assumption | exact Heap.set_at (by omega) | exact Heap.new_at (by ((repeat first | apply Heap.nx_set | apply Heap.nx_new | apply Heap.nx_kill | apply Heap.nx_room); first | assumption | rfl)) (by omega))) ?_)
      | (show NEWN _ _; refine NEWN.mk (by ((repeat first | apply Heap.nx_set | apply Heap.nx_new | apply Heap.nx_kill | apply Heap.nx_room); first | assumption | rfl)) ?_)
      | (show SETN _ _ _ _ _ _; refine SETN.mk (by ((repeat first | refine Heap.room_get ?_ | refine Heap.set_skip (by omega) ?_ | refine Heap.new_skip (by ((repeat first | apply Heap.nx_set | apply Heap.nx_new | apply Heap.nx_kill | apply Heap.nx_room); first | assumption | rfl)) (by omega) ?_ | refine Exd.skip (by assumption) (by omega) ?_); first | assumption | exact Heap.set_at (by omega) | exact Heap.new_at (by ((repeat first | apply Heap.nx_set | apply Heap.nx_new | apply Heap.nx_kill | apply Heap.nx_room); first | assumption | rfl)) (by omega))) (by rfl) (by (first | decide | (simp; done) | (simp; omega))) ?_)
      | (show DOESN _ _; refine DOESN.mk (by first | rfl | omega | (simp; done) | (simp; omega)) ?_)
      | (refine BC.yes (by assumption) ?_)
      | (refine BC.no (by assumption) ?_)
      | (refine BC.split (fun _ => ?_) (fun _ => ?_))
      | (refine SOMEN.mk (by rfl) ?_)
      | (refine scopeC ?_)
      | (refine drawC0 (hist := fun _ => Heap.empty 0) rfl ?_)
      | (refine drawC (hist := fun _ => Heap.empty 0) rfl ?_)
      | (show NUMN _ _; refine NUMN.mk (by ((repeat first | apply Heap.nx_set | apply Heap.nx_new | apply Heap.nx_kill | apply Heap.nx_room); first | assumption | rfl)) ?_)
      | (show LOOKN _ _ _ _ _ _; refine LOOKN.mk (by first | exact QV.load rfl (by ((repeat first | refine Heap.room_get ?_ | refine Heap.set_skip (by omega) ?_ | refine Heap.new_skip (by ((repeat first | apply Heap.nx_set | apply Heap.nx_new | apply Heap.nx_kill | apply Heap.nx_room); first | assumption | rfl)) (by omega) ?_ | refine Exd.skip (by assumption) (by omega) ?_); first | assumption | exact Heap.set_at (by omega) | exact Heap.new_at (by ((repeat first | apply Heap.nx_set | apply Heap.nx_new | apply Heap.nx_kill | apply Heap.nx_room); first | assumption | rfl)) (by omega))) (by rfl) | exact QV.loadA rfl (by ((repeat first | refine Heap.room_get ?_ | refine Heap.set_skip (by omega) ?_ | refine Heap.new_skip (by ((repeat first | apply Heap.nx_set | apply Heap.nx_new | apply Heap.nx_kill | apply Heap.nx_room); first | assumption | rfl)) (by omega) ?_ | refine Exd.skip (by assumption) (by omega) ?_); first | assumption | exact Heap.set_at (by omega) | exact Heap.new_at (by ((repeat first | apply Heap.nx_set | apply Heap.nx_new | apply Heap.nx_kill | apply Heap.nx_room); first | assumption | rfl)) (by omega))) (by rfl) (by rfl)) ?_)
      | fail)))
    exact ⟨rfl, (q + 1, max w n), ⟨rfl, rfl, rfl, rfl, trivial⟩, ⟨rfl, by show q + 1 ≤ S[j].holds.length; omega, by rw [en]; exact hm.next hjl hql⟩, by show S[j].holds.length - (q + 1) < S[j].holds.length - q; omega⟩
  obtain ⟨ur, uh, b1, b2, b3, b4, b5⟩ := hcs m hmm
  have sm : Small S[m].holds := (hl0.2 _ (List.getElem_mem hmm)).2
  have hcall : ∀ {Q' : CVal → Heap → Prop}, (∀ b, (b = true ↔ S[j].holds[q] ∈ S[m].holds) → Q' (.bool b) h3) → Cal tt 33 [uh, .int .i64 S[j].holds[q]] h3 Q' := fun k => has_cal b5 sm k
  have rd := rnL_drop hmm S[j].holds[q]
  rcases b5 with ⟨rfl, _⟩ | ⟨ui, uo, uc, rfl, _, _⟩
  all_goals
    (repeat' ((conv => whnf); (first
      | (refine AT.of (by simpa using b2) ?_)
      | (refine AT.of (v := .int .i64 S[m].pid) (by simpa using b3) ?_)
      | (refine CALLN.of (hcall fun b hb' => ?_))
      | (refine LTN.yes (by omega) ?_)
      | (refine LTN.no (by omega) ?_)
      | (refine LTN.mk (fun _ => ?_) (fun _ => ?_))
      | (refine EQN.yes (by omega) ?_)
      | (refine EQN.no (by omega) ?_)
      | (refine EQN.mk (fun _ => ?_) (fun _ => ?_))
      | (refine EQSN.yes (by first | rfl | assumption) ?_)
      | (refine EQSN.no (by first | decide | assumption) ?_)
      | (refine EQSN.mk (fun _ => ?_) (fun _ => ?_))
      | (refine ARN.in (by omega) ?_)
      | (refine ARN.fits (by first | (apply u8_in; omega) | (apply i32_in; omega) | (apply u32_in; omega)) ?_)
      | (refine QUON.pos (by omega) ?_)
      | (refine REMN.pos (by omega) ?_)
      | (refine REMN.mk (by omega) ?_)
      | (show GETN _ _ _; refine GETN.mk (by ((repeat first | refine Heap.room_get ?_ | refine Heap.set_skip (by omega) ?_ | refine Heap.new_skip (by ((repeat first | apply Heap.nx_set | apply Heap.nx_new | apply Heap.nx_kill | apply Heap.nx_room); first | assumption | rfl)) (by omega) ?_ | refine Exd.skip (by assumption) (by omega) ?_); first | assumption | exact Heap.set_at (by omega) | exact Heap.new_at (by ((repeat first | apply Heap.nx_set | apply Heap.nx_new | apply Heap.nx_kill | apply Heap.nx_room); first | assumption | rfl)) (by omega))) ?_)
      | (show GETM _ _ _; refine GETM.mk (by ((repeat first | refine Heap.room_get ?_ | refine Heap.set_skip (by omega) ?_ | refine Heap.new_skip (by ((repeat first | apply Heap.nx_set | apply Heap.nx_new | apply Heap.nx_kill | apply Heap.nx_room); first | assumption | rfl)) (by omega) ?_ | refine Exd.skip (by assumption) (by omega) ?_); first | assumption | exact Heap.set_at (by omega) | exact Heap.new_at (by ((repeat first | apply Heap.nx_set | apply Heap.nx_new | apply Heap.nx_kill | apply Heap.nx_room); first | assumption | rfl)) (by omega))) ?_)
      | (show NEWN _ _; refine NEWN.mk (by ((repeat first | apply Heap.nx_set | apply Heap.nx_new | apply Heap.nx_kill | apply Heap.nx_room); first | assumption | rfl)) ?_)
      | (show SETN _ _ _ _ _ _; refine SETN.mk (by ((repeat first | refine Heap.room_get ?_ | refine Heap.set_skip (by omega) ?_ | refine Heap.new_skip (by ((repeat first | apply Heap.nx_set | apply Heap.nx_new | apply Heap.nx_kill | apply Heap.nx_room); first | assumption | rfl)) (by omega) ?_ | refine Exd.skip (by assumption) (by omega) ?_); first | assumption | exact Heap.set_at (by omega) | exact Heap.new_at (by ((repeat first | apply Heap.nx_set | apply Heap.nx_new | apply Heap.nx_kill | apply Heap.nx_room); first | assumption | rfl)) (by omega))) (by rfl) (by (first | decide | (simp; done) | (simp; omega))) ?_)
      | (show DOESN _ _; refine DOESN.mk (by first | rfl | omega | (simp; done) | (simp; omega)) ?_)
      | (refine BC.yes (by assumption) ?_)
      | (refine BC.no (by assumption) ?_)
      | (refine BC.split (fun _ => ?_) (fun _ => ?_))
      | (refine SOMEN.mk (by rfl) ?_)
      | (refine scopeC ?_)
      | (refine drawC0 (hist := fun _ => Heap.empty 0) rfl ?_)
      | (refine drawC (hist := fun _ => Heap.empty 0) rfl ?_)
      | (show NUMN _ _; refine NUMN.mk (by ((repeat first | apply Heap.nx_set | apply Heap.nx_new | apply Heap.nx_kill | apply Heap.nx_room); first | assumption | rfl)) ?_)
      | (show LOOKN _ _ _ _ _ _; refine LOOKN.mk (by first | exact QV.load rfl (by ((repeat first | refine Heap.room_get ?_ | refine Heap.set_skip (by omega) ?_ | refine Heap.new_skip (by ((repeat first | apply Heap.nx_set | apply Heap.nx_new | apply Heap.nx_kill | apply Heap.nx_room); first | assumption | rfl)) (by omega) ?_ | refine Exd.skip (by assumption) (by omega) ?_); first | assumption | exact Heap.set_at (by omega) | exact Heap.new_at (by ((repeat first | apply Heap.nx_set | apply Heap.nx_new | apply Heap.nx_kill | apply Heap.nx_room); first | assumption | rfl)) (by omega))) (by rfl) | exact QV.loadA rfl (by ((repeat first | refine Heap.room_get ?_ | refine Heap.set_skip (by omega) ?_ | refine Heap.new_skip (by ((repeat first | apply Heap.nx_set | apply Heap.nx_new | apply Heap.nx_kill | apply Heap.nx_room); first | assumption | rfl)) (by omega) ?_ | refine Exd.skip (by assumption) (by omega) ?_); first | assumption | exact Heap.set_at (by omega) | exact Heap.new_at (by ((repeat first | apply Heap.nx_set | apply Heap.nx_new | apply Heap.nx_kill | apply Heap.nx_room); first | assumption | rfl)) (by omega))) (by rfl) (by rfl)) ?_)
      | fail)))
    · rw [if_pos (hb'.1 (by assumption)), if_pos (by assumption)] at rd
      exact ⟨rfl, (m + 1, n + 1), ⟨rfl, rfl, rfl, rfl, rfl, rfl, rfl, trivial⟩, ⟨rfl, by show j ≤ m + 1; omega, by show m + 1 ≤ S.length; omega, by show 0 ≤ n + 1; omega, by show n + 1 + rnL _ (S.drop (m + 1)) = _; omega⟩, by show S.length - (m + 1) < S.length - m; omega⟩
    · rw [if_pos (hb'.1 (by assumption)), if_neg (by assumption)] at rd
      exact ⟨rfl, (m + 1, n), ⟨rfl, rfl, rfl, rfl, rfl, rfl, rfl, trivial⟩, ⟨rfl, by show j ≤ m + 1; omega, by show m + 1 ≤ S.length; omega, hn, by show n + rnL _ (S.drop (m + 1)) = _; omega⟩, by show S.length - (m + 1) < S.length - m; omega⟩
    · have bf : b = false := by assumption
      have hni : ¬ S[j].holds[q] ∈ S[m].holds := fun hi => by have := hb'.2 hi; rw [bf] at this; simp at this
      rw [if_neg hni] at rd
      have en := fin rd
      exact ⟨rfl, (q + 1, max w n), ⟨rfl, rfl, rfl, rfl, trivial⟩, ⟨rfl, by show q + 1 ≤ S[j].holds.length; omega, by rw [en]; exact hm.next hjl hql⟩, by show S[j].holds.length - (q + 1) < S[j].holds.length - q; omega⟩
end Go.Proofs.Ythcmiceheohpjaa.Cm
