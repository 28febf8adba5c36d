/-
  Event, texts: words, numbers, kinds.
-/
import Derived.Test.YtmppoknfekdbbaaDoorCmEG
namespace Go.Proofs.YtmppoknfekdbbaaDoor.Cm
open Go.RowKit Go.IntWalk
attribute [local irreducible] Heap.set Heap.new Heap.kill Heap.get Heap.room Cal WP

set_option maxHeartbeats 2000000 in
theorem words_cal {s : List UInt8} {h : Heap} {Q : CVal → Heap → Prop} (hs : s.length ≤ 1000) (k : ∀ v h', Exd h h' → Own h h' v 1 (splitB s).length ((splitB s).map .str) → Q v h') : Cal tt 22 [.str s] h Q := by
  refine Cal.run rfl rfl rfl rfl ?_
  (repeat' ((conv => whnf); (first
      | (refine OPN.range rfl (by ((repeat first | apply Heap.nx_set | apply Heap.nx_new | apply Heap.nx_kill | apply Heap.nx_room); first | assumption | rfl)) ?_)
      | (refine LTN.yes (by omega) ?_)
      | (refine LTN.no (by omega) ?_)
      | (refine LTN.mk (fun _ => ?_) (fun _ => ?_))
      | (refine EQN.yes (by omega) ?_)
      | (refine EQN.no (by omega) ?_)
      | (refine EQN.mk (fun _ => ?_) (fun _ => ?_))
      | (refine EQSN.yes (by first | rfl | assumption) ?_)
      | (refine EQSN.no (by first | decide | assumption) ?_)
      | (refine EQSN.mk (fun _ => ?_) (fun _ => ?_))
      | (refine ARN.in (by omega) ?_)
      | (refine ARN.fits (by first | (apply u8_in; omega) | (apply i32_in; omega) | (apply u32_in; omega)) ?_)
      | (refine QUON.pos (by omega) ?_)
      | (refine REMN.pos (by omega) ?_)
      | (refine REMN.mk (by omega) ?_)
      | (show GETN _ _ _; refine GETN.mk (by ((repeat first | refine Heap.room_get ?_ | refine Heap.set_skip (by omega) ?_ | refine Heap.new_skip (by ((repeat first | apply Heap.nx_set | apply Heap.nx_new | apply Heap.nx_kill | apply Heap.nx_room); first | assumption | rfl)) (by omega) ?_ | refine Exd.skip (by assumption) (by omega) ?_); first | assumption | exact Heap.set_at (by omega) | exact Heap.new_at (by ((repeat first | apply Heap.nx_set | apply Heap.nx_new | apply Heap.nx_kill | apply Heap.nx_room); first | assumption | rfl)) (by omega))) ?_)
      | (show GETM _ _ _; refine GETM.mk (by ((repeat first | refine Heap.room_get ?_ | refine Heap.set_skip (by omega) ?_ | refine Heap.new_skip (by ((repeat first | apply Heap.nx_set | apply Heap.nx_new | apply Heap.nx_kill | apply Heap.nx_room); first | assumption | rfl)) (by omega) ?_ | refine Exd.skip (by assumption) (by omega) ?_); first | assumption | exact Heap.set_at (by omega) | exact Heap.new_at (by ((repeat first | apply Heap.nx_set | apply Heap.nx_new | apply Heap.nx_kill | apply Heap.nx_room); first | assumption | rfl)) (by omega))) ?_)
      | (show NEWN _ _; refine NEWN.mk (by ((repeat first | apply Heap.nx_set | apply Heap.nx_new | apply Heap.nx_kill | apply Heap.nx_room); first | assumption | rfl)) ?_)
      | (show SETN _ _ _ _ _ _; refine SETN.mk (by ((repeat first | refine Heap.room_get ?_ | refine Heap.set_skip (by omega) ?_ | refine Heap.new_skip (by ((repeat first | apply Heap.nx_set | apply Heap.nx_new | apply Heap.nx_kill | apply Heap.nx_room); first | assumption | rfl)) (by omega) ?_ | refine Exd.skip (by assumption) (by omega) ?_); first | assumption | exact Heap.set_at (by omega) | exact Heap.new_at (by ((repeat first | apply Heap.nx_set | apply Heap.nx_new | apply Heap.nx_kill | apply Heap.nx_room); first | assumption | rfl)) (by omega))) (by rfl) (by (first | decide | (simp; done) | (simp; omega))) ?_)
      | (show DOESN _ _; refine DOESN.mk (by first | rfl | omega | (simp; done) | (simp; omega)) ?_)
      | (refine BC.yes (by assumption) ?_)
      | (refine BC.no (by assumption) ?_)
      | (refine BC.split (fun _ => ?_) (fun _ => ?_))
      | (refine SOMEN.mk (by rfl) ?_)
      | (refine scopeC ?_)
      | (refine drawC0 (hist := fun _ => Heap.empty 0) rfl ?_)
      | (refine drawC (hist := fun _ => Heap.empty 0) rfl ?_)
      | (show NUMN _ _; refine NUMN.mk (by ((repeat first | apply Heap.nx_set | apply Heap.nx_new | apply Heap.nx_kill | apply Heap.nx_room); first | assumption | rfl)) ?_)
      | (show LOOKN _ _ _ _ _ _; refine LOOKN.mk (by first | exact QV.load rfl (by ((repeat first | refine Heap.room_get ?_ | refine Heap.set_skip (by omega) ?_ | refine Heap.new_skip (by ((repeat first | apply Heap.nx_set | apply Heap.nx_new | apply Heap.nx_kill | apply Heap.nx_room); first | assumption | rfl)) (by omega) ?_ | refine Exd.skip (by assumption) (by omega) ?_); first | assumption | exact Heap.set_at (by omega) | exact Heap.new_at (by ((repeat first | apply Heap.nx_set | apply Heap.nx_new | apply Heap.nx_kill | apply Heap.nx_room); first | assumption | rfl)) (by omega))) (by rfl) | exact QV.loadA rfl (by ((repeat first | refine Heap.room_get ?_ | refine Heap.set_skip (by omega) ?_ | refine Heap.new_skip (by ((repeat first | apply Heap.nx_set | apply Heap.nx_new | apply Heap.nx_kill | apply Heap.nx_room); first | assumption | rfl)) (by omega) ?_ | refine Exd.skip (by assumption) (by omega) ?_); first | assumption | exact Heap.set_at (by omega) | exact Heap.new_at (by ((repeat first | apply Heap.nx_set | apply Heap.nx_new | apply Heap.nx_kill | apply Heap.nx_room); first | assumption | rfl)) (by omega))) (by rfl) (by rfl)) ?_)
      | fail)))
  refine loopC (fun x : Nat × Nat × CVal × List (List UInt8) => [(0, .str s), (2, x.2.2.1), (3, .int .i64 x.2.1), (7, .ptr h.next 0)])
    (fun x h' => Exd h h' ∧ h.next < h'.next ∧ h'.get h.next = some (.iter s x.1) ∧ Cut s x.2.2.2 x.2.1 x.1 ∧ Own h h' x.2.2.1 1 x.2.2.2.length (x.2.2.2.map .str) ∧ vne h.next x.2.2.1) (fun x => s.length - x.1) (0, 0, .nilSlice, []) ⟨rfl, rfl, rfl, rfl, trivial⟩
    ⟨by (repeat' first | exact Exd.refl _ | assumption | refine Exd.new ?_ | refine Exd.set ?_ (by omega) | refine Exd.kill ?_ (by omega)), by (first | omega | (dsimp only; omega) | (simp only []; omega) | (simp only [Heap.next_new]; omega) | (simp only [Heap.next_set]; omega) | (simp only [Heap.next_set, Heap.next_new]; omega) | (simp only [Heap.next_set, Heap.next_new, Heap.next_kill]; omega)), by show Heap.get _ h.next = _; ((repeat first | refine Heap.room_get ?_ | refine Heap.set_skip (by omega) ?_ | refine Heap.new_skip (by ((repeat first | apply Heap.nx_set | apply Heap.nx_new | apply Heap.nx_kill | apply Heap.nx_room); first | assumption | rfl)) (by omega) ?_ | refine Exd.skip (by assumption) (by omega) ?_); first | assumption | exact Heap.set_at (by omega) | exact Heap.new_at (by ((repeat first | apply Heap.nx_set | apply Heap.nx_new | apply Heap.nx_kill | apply Heap.nx_room); first | assumption | rfl)) (by omega)), Cut.zero, Own.nil, fun _ _ _ e => by simp at e⟩ ?_
  rintro ⟨i, fr, v, ws⟩ ρ h' ⟨e, hn, hg, c, O, ne⟩
  simp only at hg c O ne
  have c1 := c.h1
  have c2 := c.h2
  have c4 := c.len
  by_cases hi : i < s.length
  rotate_left
  · obtain rfl : i = s.length := by omega
    have dn := c.done
    have e1 : [CVal.str ((s.drop fr).take (s.length - fr))].all CVal.one = true := rfl
    rcases O.cases with ⟨rfl, _⟩ | ⟨i', rfl, _⟩
    all_goals
      (repeat' ((conv => whnf); (first
      | (refine OPN.next0 rfl hg (Nat.le_refl _) ?_)
      | (refine SOMEN.mk (bounds1 (p := fr) rfl c1 (Nat.le_refl _)) ?_)
      | (refine LTN.yes (by omega) ?_)
      | (refine LTN.no (by omega) ?_)
      | (refine LTN.mk (fun _ => ?_) (fun _ => ?_))
      | (refine EQN.yes (by omega) ?_)
      | (refine EQN.no (by omega) ?_)
      | (refine EQN.mk (fun _ => ?_) (fun _ => ?_))
      | (refine EQSN.yes (by first | rfl | assumption) ?_)
      | (refine EQSN.no (by first | decide | assumption) ?_)
      | (refine EQSN.mk (fun _ => ?_) (fun _ => ?_))
      | (refine ARN.in (by omega) ?_)
      | (refine ARN.fits (by first | (apply u8_in; omega) | (apply i32_in; omega) | (apply u32_in; omega)) ?_)
      | (refine QUON.pos (by omega) ?_)
      | (refine REMN.pos (by omega) ?_)
      | (refine REMN.mk (by omega) ?_)
      | (show GETN _ _ _; refine GETN.mk (by ((repeat first | refine Heap.room_get ?_ | refine Heap.set_skip (by omega) ?_ | refine Heap.new_skip (by ((repeat first | apply Heap.nx_set | apply Heap.nx_new | apply Heap.nx_kill | apply Heap.nx_room); first | assumption | rfl)) (by omega) ?_ | refine Exd.skip (by assumption) (by omega) ?_); first | assumption | exact Heap.set_at (by omega) | exact Heap.new_at (by ((repeat first | apply Heap.nx_set | apply Heap.nx_new | apply Heap.nx_kill | apply Heap.nx_room); first | assumption | rfl)) (by omega))) ?_)
      | (show GETM _ _ _; refine GETM.mk (by ((repeat first | refine Heap.room_get ?_ | refine Heap.set_skip (by omega) ?_ | refine Heap.new_skip (by ((repeat first | apply Heap.nx_set | apply Heap.nx_new | apply Heap.nx_kill | apply Heap.nx_room); first | assumption | rfl)) (by omega) ?_ | refine Exd.skip (by assumption) (by omega) ?_); first | assumption | exact Heap.set_at (by omega) | exact Heap.new_at (by ((repeat first | apply Heap.nx_set | apply Heap.nx_new | apply Heap.nx_kill | apply Heap.nx_room); first | assumption | rfl)) (by omega))) ?_)
      | (show NEWN _ _; refine NEWN.mk (by ((repeat first | apply Heap.nx_set | apply Heap.nx_new | apply Heap.nx_kill | apply Heap.nx_room); first | assumption | rfl)) ?_)
      | (show SETN _ _ _ _ _ _; refine SETN.mk (by ((repeat first | refine Heap.room_get ?_ | refine Heap.set_skip (by omega) ?_ | refine Heap.new_skip (by ((repeat first | apply Heap.nx_set | apply Heap.nx_new | apply Heap.nx_kill | apply Heap.nx_room); first | assumption | rfl)) (by omega) ?_ | refine Exd.skip (by assumption) (by omega) ?_); first | assumption | exact Heap.set_at (by omega) | exact Heap.new_at (by ((repeat first | apply Heap.nx_set | apply Heap.nx_new | apply Heap.nx_kill | apply Heap.nx_room); first | assumption | rfl)) (by omega))) (by rfl) (by (first | decide | (simp; done) | (simp; omega))) ?_)
      | (show DOESN _ _; refine DOESN.mk (by first | rfl | omega | (simp; done) | (simp; omega)) ?_)
      | (refine BC.yes (by assumption) ?_)
      | (refine BC.no (by assumption) ?_)
      | (refine BC.split (fun _ => ?_) (fun _ => ?_))
      | (refine SOMEN.mk (by rfl) ?_)
      | (refine scopeC ?_)
      | (refine drawC0 (hist := fun _ => Heap.empty 0) rfl ?_)
      | (refine drawC (hist := fun _ => Heap.empty 0) rfl ?_)
      | (show NUMN _ _; refine NUMN.mk (by ((repeat first | apply Heap.nx_set | apply Heap.nx_new | apply Heap.nx_kill | apply Heap.nx_room); first | assumption | rfl)) ?_)
      | (show LOOKN _ _ _ _ _ _; refine LOOKN.mk (by first | exact QV.load rfl (by ((repeat first | refine Heap.room_get ?_ | refine Heap.set_skip (by omega) ?_ | refine Heap.new_skip (by ((repeat first | apply Heap.nx_set | apply Heap.nx_new | apply Heap.nx_kill | apply Heap.nx_room); first | assumption | rfl)) (by omega) ?_ | refine Exd.skip (by assumption) (by omega) ?_); first | assumption | exact Heap.set_at (by omega) | exact Heap.new_at (by ((repeat first | apply Heap.nx_set | apply Heap.nx_new | apply Heap.nx_kill | apply Heap.nx_room); first | assumption | rfl)) (by omega))) (by rfl) | exact QV.loadA rfl (by ((repeat first | refine Heap.room_get ?_ | refine Heap.set_skip (by omega) ?_ | refine Heap.new_skip (by ((repeat first | apply Heap.nx_set | apply Heap.nx_new | apply Heap.nx_kill | apply Heap.nx_room); first | assumption | rfl)) (by omega) ?_ | refine Exd.skip (by assumption) (by omega) ?_); first | assumption | exact Heap.set_at (by omega) | exact Heap.new_at (by ((repeat first | apply Heap.nx_set | apply Heap.nx_new | apply Heap.nx_kill | apply Heap.nx_room); first | assumption | rfl)) (by omega))) (by rfl) (by rfl)) ?_)
      | fail)))
      generalize hh : Heap.new h' _ = h1
      have x1 : Exd h' h1 := by rw [← hh]; exact Exd.new (Exd.refl _)
      have g1 : h1.get h'.next = some (.cells [.str ((s.drop fr).take (s.length - fr))] true none) := by rw [← hh]; ((repeat first | refine Heap.room_get ?_ | refine Heap.set_skip (by omega) ?_ | refine Heap.new_skip (by ((repeat first | apply Heap.nx_set | apply Heap.nx_new | apply Heap.nx_kill | apply Heap.nx_room); first | assumption | rfl)) (by omega) ?_ | refine Exd.skip (by assumption) (by omega) ?_); first | assumption | exact Heap.set_at (by omega) | exact Heap.new_at (by ((repeat first | apply Heap.nx_set | apply Heap.nx_new | apply Heap.nx_kill | apply Heap.nx_room); first | assumption | rfl)) (by omega))
      obtain ⟨h2, eb, x2, O2, n2, _⟩ := O.push (bytes := 16) e x1 (srcC_one g1 rfl (by omega)) (by omega) rfl (by omega)
      refine SOMEN.mk eb ?_
      (repeat' ((conv => whnf); (first
      | (refine LTN.yes (by omega) ?_)
      | (refine LTN.no (by omega) ?_)
      | (refine LTN.mk (fun _ => ?_) (fun _ => ?_))
      | (refine EQN.yes (by omega) ?_)
      | (refine EQN.no (by omega) ?_)
      | (refine EQN.mk (fun _ => ?_) (fun _ => ?_))
      | (refine EQSN.yes (by first | rfl | assumption) ?_)
      | (refine EQSN.no (by first | decide | assumption) ?_)
      | (refine EQSN.mk (fun _ => ?_) (fun _ => ?_))
      | (refine ARN.in (by omega) ?_)
      | (refine ARN.fits (by first | (apply u8_in; omega) | (apply i32_in; omega) | (apply u32_in; omega)) ?_)
      | (refine QUON.pos (by omega) ?_)
      | (refine REMN.pos (by omega) ?_)
      | (refine REMN.mk (by omega) ?_)
      | (show GETN _ _ _; refine GETN.mk (by ((repeat first | refine Heap.room_get ?_ | refine Heap.set_skip (by omega) ?_ | refine Heap.new_skip (by ((repeat first | apply Heap.nx_set | apply Heap.nx_new | apply Heap.nx_kill | apply Heap.nx_room); first | assumption | rfl)) (by omega) ?_ | refine Exd.skip (by assumption) (by omega) ?_); first | assumption | exact Heap.set_at (by omega) | exact Heap.new_at (by ((repeat first | apply Heap.nx_set | apply Heap.nx_new | apply Heap.nx_kill | apply Heap.nx_room); first | assumption | rfl)) (by omega))) ?_)
      | (show GETM _ _ _; refine GETM.mk (by ((repeat first | refine Heap.room_get ?_ | refine Heap.set_skip (by omega) ?_ | refine Heap.new_skip (by ((repeat first | apply Heap.nx_set | apply Heap.nx_new | apply Heap.nx_kill | apply Heap.nx_room); first | assumption | rfl)) (by omega) ?_ | refine Exd.skip (by assumption) (by omega) ?_); first | assumption | exact Heap.set_at (by omega) | exact Heap.new_at (by ((repeat first | apply Heap.nx_set | apply Heap.nx_new | apply Heap.nx_kill | apply Heap.nx_room); first | assumption | rfl)) (by omega))) ?_)
      | (show NEWN _ _; refine NEWN.mk (by ((repeat first | apply Heap.nx_set | apply Heap.nx_new | apply Heap.nx_kill | apply Heap.nx_room); first | assumption | rfl)) ?_)
      | (show SETN _ _ _ _ _ _; refine SETN.mk (by ((repeat first | refine Heap.room_get ?_ | refine Heap.set_skip (by omega) ?_ | refine Heap.new_skip (by ((repeat first | apply Heap.nx_set | apply Heap.nx_new | apply Heap.nx_kill | apply Heap.nx_room); first | assumption | rfl)) (by omega) ?_ | refine Exd.skip (by assumption) (by omega) ?_); first | assumption | exact Heap.set_at (by omega) | exact Heap.new_at (by ((repeat first | apply Heap.nx_set | apply Heap.nx_new | apply Heap.nx_kill | apply Heap.nx_room); first | assumption | rfl)) (by omega))) (by rfl) (by (first | decide | (simp; done) | (simp; omega))) ?_)
      | (show DOESN _ _; refine DOESN.mk (by first | rfl | omega | (simp; done) | (simp; omega)) ?_)
      | (refine BC.yes (by assumption) ?_)
      | (refine BC.no (by assumption) ?_)
      | (refine BC.split (fun _ => ?_) (fun _ => ?_))
      | (refine SOMEN.mk (by rfl) ?_)
      | (refine scopeC ?_)
      | (refine drawC0 (hist := fun _ => Heap.empty 0) rfl ?_)
      | (refine drawC (hist := fun _ => Heap.empty 0) rfl ?_)
      | (show NUMN _ _; refine NUMN.mk (by ((repeat first | apply Heap.nx_set | apply Heap.nx_new | apply Heap.nx_kill | apply Heap.nx_room); first | assumption | rfl)) ?_)
      | (show LOOKN _ _ _ _ _ _; refine LOOKN.mk (by first | exact QV.load rfl (by ((repeat first | refine Heap.room_get ?_ | refine Heap.set_skip (by omega) ?_ | refine Heap.new_skip (by ((repeat first | apply Heap.nx_set | apply Heap.nx_new | apply Heap.nx_kill | apply Heap.nx_room); first | assumption | rfl)) (by omega) ?_ | refine Exd.skip (by assumption) (by omega) ?_); first | assumption | exact Heap.set_at (by omega) | exact Heap.new_at (by ((repeat first | apply Heap.nx_set | apply Heap.nx_new | apply Heap.nx_kill | apply Heap.nx_room); first | assumption | rfl)) (by omega))) (by rfl) | exact QV.loadA rfl (by ((repeat first | refine Heap.room_get ?_ | refine Heap.set_skip (by omega) ?_ | refine Heap.new_skip (by ((repeat first | apply Heap.nx_set | apply Heap.nx_new | apply Heap.nx_kill | apply Heap.nx_room); first | assumption | rfl)) (by omega) ?_ | refine Exd.skip (by assumption) (by omega) ?_); first | assumption | exact Heap.set_at (by omega) | exact Heap.new_at (by ((repeat first | apply Heap.nx_set | apply Heap.nx_new | apply Heap.nx_kill | apply Heap.nx_room); first | assumption | rfl)) (by omega))) (by rfl) (by rfl)) ?_)
      | fail)))
      refine k _ _ x2 ?_
      rw [dn, List.length_append, List.map_append]
      exact O2
  · rcases O.cases with ⟨rfl, _⟩ | ⟨i', rfl, hi1, hi2⟩
    all_goals
      (repeat' ((conv => whnf); (first
      | (refine LTN.yes (by omega) ?_)
      | (refine LTN.no (by omega) ?_)
      | (refine LTN.mk (fun _ => ?_) (fun _ => ?_))
      | (refine EQN.yes (by omega) ?_)
      | (refine EQN.no (by omega) ?_)
      | (refine EQN.mk (fun _ => ?_) (fun _ => ?_))
      | (refine EQSN.yes (by first | rfl | assumption) ?_)
      | (refine EQSN.no (by first | decide | assumption) ?_)
      | (refine EQSN.mk (fun _ => ?_) (fun _ => ?_))
      | (refine ARN.in (by omega) ?_)
      | (refine ARN.fits (by first | (apply u8_in; omega) | (apply i32_in; omega) | (apply u32_in; omega)) ?_)
      | (refine QUON.pos (by omega) ?_)
      | (refine REMN.pos (by omega) ?_)
      | (refine REMN.mk (by omega) ?_)
      | (show GETN _ _ _; refine GETN.mk (by ((repeat first | refine Heap.room_get ?_ | refine Heap.set_skip (by omega) ?_ | refine Heap.new_skip (by ((repeat first | apply Heap.nx_set | apply Heap.nx_new | apply Heap.nx_kill | apply Heap.nx_room); first | assumption | rfl)) (by omega) ?_ | refine Exd.skip (by assumption) (by omega) ?_); first | assumption | exact Heap.set_at (by omega) | exact Heap.new_at (by ((repeat first | apply Heap.nx_set | apply Heap.nx_new | apply Heap.nx_kill | apply Heap.nx_room); first | assumption | rfl)) (by omega))) ?_)
      | (show GETM _ _ _; refine GETM.mk (by ((repeat first | refine Heap.room_get ?_ | refine Heap.set_skip (by omega) ?_ | refine Heap.new_skip (by ((repeat first | apply Heap.nx_set | apply Heap.nx_new | apply Heap.nx_kill | apply Heap.nx_room); first | assumption | rfl)) (by omega) ?_ | refine Exd.skip (by assumption) (by omega) ?_); first | assumption | exact Heap.set_at (by omega) | exact Heap.new_at (by ((repeat first | apply Heap.nx_set | apply Heap.nx_new | apply Heap.nx_kill | apply Heap.nx_room); first | assumption | rfl)) (by omega))) ?_)
      | (show NEWN _ _; refine NEWN.mk (by ((repeat first | apply Heap.nx_set | apply Heap.nx_new | apply Heap.nx_kill | apply Heap.nx_room); first | assumption | rfl)) ?_)
      | (show SETN _ _ _ _ _ _; refine SETN.mk (by ((repeat first | refine Heap.room_get ?_ | refine Heap.set_skip (by omega) ?_ | refine Heap.new_skip (by ((repeat first | apply Heap.nx_set | apply Heap.nx_new | apply Heap.nx_kill | apply Heap.nx_room); first | assumption | rfl)) (by omega) ?_ | refine Exd.skip (by assumption) (by omega) ?_); first | assumption | exact Heap.set_at (by omega) | exact Heap.new_at (by ((repeat first | apply Heap.nx_set | apply Heap.nx_new | apply Heap.nx_kill | apply Heap.nx_room); first | assumption | rfl)) (by omega))) (by rfl) (by (first | decide | (simp; done) | (simp; omega))) ?_)
      | (show DOESN _ _; refine DOESN.mk (by first | rfl | omega | (simp; done) | (simp; omega)) ?_)
      | (refine BC.yes (by assumption) ?_)
      | (refine BC.no (by assumption) ?_)
      | (refine BC.split (fun _ => ?_) (fun _ => ?_))
      | (refine SOMEN.mk (by rfl) ?_)
      | (refine scopeC ?_)
      | (refine drawC0 (hist := fun _ => Heap.empty 0) rfl ?_)
      | (refine drawC (hist := fun _ => Heap.empty 0) rfl ?_)
      | (show NUMN _ _; refine NUMN.mk (by ((repeat first | apply Heap.nx_set | apply Heap.nx_new | apply Heap.nx_kill | apply Heap.nx_room); first | assumption | rfl)) ?_)
      | (show LOOKN _ _ _ _ _ _; refine LOOKN.mk (by first | exact QV.load rfl (by ((repeat first | refine Heap.room_get ?_ | refine Heap.set_skip (by omega) ?_ | refine Heap.new_skip (by ((repeat first | apply Heap.nx_set | apply Heap.nx_new | apply Heap.nx_kill | apply Heap.nx_room); first | assumption | rfl)) (by omega) ?_ | refine Exd.skip (by assumption) (by omega) ?_); first | assumption | exact Heap.set_at (by omega) | exact Heap.new_at (by ((repeat first | apply Heap.nx_set | apply Heap.nx_new | apply Heap.nx_kill | apply Heap.nx_room); first | assumption | rfl)) (by omega))) (by rfl) | exact QV.loadA rfl (by ((repeat first | refine Heap.room_get ?_ | refine Heap.set_skip (by omega) ?_ | refine Heap.new_skip (by ((repeat first | apply Heap.nx_set | apply Heap.nx_new | apply Heap.nx_kill | apply Heap.nx_room); first | assumption | rfl)) (by omega) ?_ | refine Exd.skip (by assumption) (by omega) ?_); first | assumption | exact Heap.set_at (by omega) | exact Heap.new_at (by ((repeat first | apply Heap.nx_set | apply Heap.nx_new | apply Heap.nx_kill | apply Heap.nx_room); first | assumption | rfl)) (by omega))) (by rfl) (by rfl)) ?_)
      | fail)))
      refine OPN.next1 rfl hg hi fun cc w hd => ?_
      obtain ⟨d1, d2, d3, d4, d5⟩ := dec_blank hi hd
      have xs : Exd h (h'.set h.next (.iter s (i + w))) := Exd.set e (Nat.le_refl _)
      (repeat' ((conv => whnf); (first
      | (refine SOMEN.mk (bounds2 (p := fr) (q := i) rfl rfl c1 (Nat.le_of_lt hi)) ?_)
      | (refine LTN.yes (by omega) ?_)
      | (refine LTN.no (by omega) ?_)
      | (refine LTN.mk (fun _ => ?_) (fun _ => ?_))
      | (refine EQN.yes (by omega) ?_)
      | (refine EQN.no (by omega) ?_)
      | (refine EQN.mk (fun _ => ?_) (fun _ => ?_))
      | (refine EQSN.yes (by first | rfl | assumption) ?_)
      | (refine EQSN.no (by first | decide | assumption) ?_)
      | (refine EQSN.mk (fun _ => ?_) (fun _ => ?_))
      | (refine ARN.in (by omega) ?_)
      | (refine ARN.fits (by first | (apply u8_in; omega) | (apply i32_in; omega) | (apply u32_in; omega)) ?_)
      | (refine QUON.pos (by omega) ?_)
      | (refine REMN.pos (by omega) ?_)
      | (refine REMN.mk (by omega) ?_)
      | (show GETN _ _ _; refine GETN.mk (by ((repeat first | refine Heap.room_get ?_ | refine Heap.set_skip (by omega) ?_ | refine Heap.new_skip (by ((repeat first | apply Heap.nx_set | apply Heap.nx_new | apply Heap.nx_kill | apply Heap.nx_room); first | assumption | rfl)) (by omega) ?_ | refine Exd.skip (by assumption) (by omega) ?_); first | assumption | exact Heap.set_at (by omega) | exact Heap.new_at (by ((repeat first | apply Heap.nx_set | apply Heap.nx_new | apply Heap.nx_kill | apply Heap.nx_room); first | assumption | rfl)) (by omega))) ?_)
      | (show GETM _ _ _; refine GETM.mk (by ((repeat first | refine Heap.room_get ?_ | refine Heap.set_skip (by omega) ?_ | refine Heap.new_skip (by ((repeat first | apply Heap.nx_set | apply Heap.nx_new | apply Heap.nx_kill | apply Heap.nx_room); first | assumption | rfl)) (by omega) ?_ | refine Exd.skip (by assumption) (by omega) ?_); first | assumption | exact Heap.set_at (by omega) | exact Heap.new_at (by ((repeat first | apply Heap.nx_set | apply Heap.nx_new | apply Heap.nx_kill | apply Heap.nx_room); first | assumption | rfl)) (by omega))) ?_)
      | (show NEWN _ _; refine NEWN.mk (by ((repeat first | apply Heap.nx_set | apply Heap.nx_new | apply Heap.nx_kill | apply Heap.nx_room); first | assumption | rfl)) ?_)
      | (show SETN _ _ _ _ _ _; refine SETN.mk (by ((repeat first | refine Heap.room_get ?_ | refine Heap.set_skip (by omega) ?_ | refine Heap.new_skip (by ((repeat first | apply Heap.nx_set | apply Heap.nx_new | apply Heap.nx_kill | apply Heap.nx_room); first | assumption | rfl)) (by omega) ?_ | refine Exd.skip (by assumption) (by omega) ?_); first | assumption | exact Heap.set_at (by omega) | exact Heap.new_at (by ((repeat first | apply Heap.nx_set | apply Heap.nx_new | apply Heap.nx_kill | apply Heap.nx_room); first | assumption | rfl)) (by omega))) (by rfl) (by (first | decide | (simp; done) | (simp; omega))) ?_)
      | (show DOESN _ _; refine DOESN.mk (by first | rfl | omega | (simp; done) | (simp; omega)) ?_)
      | (refine BC.yes (by assumption) ?_)
      | (refine BC.no (by assumption) ?_)
      | (refine BC.split (fun _ => ?_) (fun _ => ?_))
      | (refine SOMEN.mk (by rfl) ?_)
      | (refine scopeC ?_)
      | (refine drawC0 (hist := fun _ => Heap.empty 0) rfl ?_)
      | (refine drawC (hist := fun _ => Heap.empty 0) rfl ?_)
      | (show NUMN _ _; refine NUMN.mk (by ((repeat first | apply Heap.nx_set | apply Heap.nx_new | apply Heap.nx_kill | apply Heap.nx_room); first | assumption | rfl)) ?_)
      | (show LOOKN _ _ _ _ _ _; refine LOOKN.mk (by first | exact QV.load rfl (by ((repeat first | refine Heap.room_get ?_ | refine Heap.set_skip (by omega) ?_ | refine Heap.new_skip (by ((repeat first | apply Heap.nx_set | apply Heap.nx_new | apply Heap.nx_kill | apply Heap.nx_room); first | assumption | rfl)) (by omega) ?_ | refine Exd.skip (by assumption) (by omega) ?_); first | assumption | exact Heap.set_at (by omega) | exact Heap.new_at (by ((repeat first | apply Heap.nx_set | apply Heap.nx_new | apply Heap.nx_kill | apply Heap.nx_room); first | assumption | rfl)) (by omega))) (by rfl) | exact QV.loadA rfl (by ((repeat first | refine Heap.room_get ?_ | refine Heap.set_skip (by omega) ?_ | refine Heap.new_skip (by ((repeat first | apply Heap.nx_set | apply Heap.nx_new | apply Heap.nx_kill | apply Heap.nx_room); first | assumption | rfl)) (by omega) ?_ | refine Exd.skip (by assumption) (by omega) ?_); first | assumption | exact Heap.set_at (by omega) | exact Heap.new_at (by ((repeat first | apply Heap.nx_set | apply Heap.nx_new | apply Heap.nx_kill | apply Heap.nx_room); first | assumption | rfl)) (by omega))) (by rfl) (by rfl)) ?_)
      | fail)))
      · have hb : s[i] = 32 := Classical.byContradiction fun h => d2 h (by omega)
        obtain ⟨_, rfl⟩ := d1 hb
        have c' := c.blank hi hb
        have O1 : Own h (h'.set h.next (.iter s (i + 1))) _ 1 ws.length (ws.map .str) := ⟨O.1.frame fun j hj => by
          rw [Heap.get_set_ne]
          intro e; subst e; exact hj ne, fun j o l c e => by rw [Heap.next_set]; exact O.2 j o l c e⟩
        generalize hh : Heap.new (Heap.set h' _ _) _ = h1
        have x1 : Exd (h'.set h.next (.iter s (i + 1))) h1 := by rw [← hh]; exact Exd.new (Exd.refl _)
        have n1 : h1.next = h'.next + 1 := by rw [← hh]; ((repeat first | apply Heap.nx_set | apply Heap.nx_new | apply Heap.nx_kill | apply Heap.nx_room); first | assumption | rfl)
        have g1 : h1.get h'.next = some (.cells [.str ((s.drop fr).take (i - fr))] true none) := by rw [← hh]; ((repeat first | refine Heap.room_get ?_ | refine Heap.set_skip (by omega) ?_ | refine Heap.new_skip (by ((repeat first | apply Heap.nx_set | apply Heap.nx_new | apply Heap.nx_kill | apply Heap.nx_room); first | assumption | rfl)) (by omega) ?_ | refine Exd.skip (by assumption) (by omega) ?_); first | assumption | exact Heap.set_at (by omega) | exact Heap.new_at (by ((repeat first | apply Heap.nx_set | apply Heap.nx_new | apply Heap.nx_kill | apply Heap.nx_room); first | assumption | rfl)) (by omega))
        have gi : h1.get h.next = some (.iter s (i + 1)) := by rw [← hh]; ((repeat first | refine Heap.room_get ?_ | refine Heap.set_skip (by omega) ?_ | refine Heap.new_skip (by ((repeat first | apply Heap.nx_set | apply Heap.nx_new | apply Heap.nx_kill | apply Heap.nx_room); first | assumption | rfl)) (by omega) ?_ | refine Exd.skip (by assumption) (by omega) ?_); first | assumption | exact Heap.set_at (by omega) | exact Heap.new_at (by ((repeat first | apply Heap.nx_set | apply Heap.nx_new | apply Heap.nx_kill | apply Heap.nx_room); first | assumption | rfl)) (by omega))
        obtain ⟨h2, eb, x2, O2, n2, _, fr2⟩ := O1.push (bytes := 16) xs x1 (srcC_one g1 rfl (by omega)) (by omega) rfl (by omega)
        refine SOMEN.mk eb ?_
        (repeat' ((conv => whnf); (first
      | (refine LTN.yes (by omega) ?_)
      | (refine LTN.no (by omega) ?_)
      | (refine LTN.mk (fun _ => ?_) (fun _ => ?_))
      | (refine EQN.yes (by omega) ?_)
      | (refine EQN.no (by omega) ?_)
      | (refine EQN.mk (fun _ => ?_) (fun _ => ?_))
      | (refine EQSN.yes (by first | rfl | assumption) ?_)
      | (refine EQSN.no (by first | decide | assumption) ?_)
      | (refine EQSN.mk (fun _ => ?_) (fun _ => ?_))
      | (refine ARN.in (by omega) ?_)
      | (refine ARN.fits (by first | (apply u8_in; omega) | (apply i32_in; omega) | (apply u32_in; omega)) ?_)
      | (refine QUON.pos (by omega) ?_)
      | (refine REMN.pos (by omega) ?_)
      | (refine REMN.mk (by omega) ?_)
      | (show GETN _ _ _; refine GETN.mk (by ((repeat first | refine Heap.room_get ?_ | refine Heap.set_skip (by omega) ?_ | refine Heap.new_skip (by ((repeat first | apply Heap.nx_set | apply Heap.nx_new | apply Heap.nx_kill | apply Heap.nx_room); first | assumption | rfl)) (by omega) ?_ | refine Exd.skip (by assumption) (by omega) ?_); first | assumption | exact Heap.set_at (by omega) | exact Heap.new_at (by ((repeat first | apply Heap.nx_set | apply Heap.nx_new | apply Heap.nx_kill | apply Heap.nx_room); first | assumption | rfl)) (by omega))) ?_)
      | (show GETM _ _ _; refine GETM.mk (by ((repeat first | refine Heap.room_get ?_ | refine Heap.set_skip (by omega) ?_ | refine Heap.new_skip (by ((repeat first | apply Heap.nx_set | apply Heap.nx_new | apply Heap.nx_kill | apply Heap.nx_room); first | assumption | rfl)) (by omega) ?_ | refine Exd.skip (by assumption) (by omega) ?_); first | assumption | exact Heap.set_at (by omega) | exact Heap.new_at (by ((repeat first | apply Heap.nx_set | apply Heap.nx_new | apply Heap.nx_kill | apply Heap.nx_room); first | assumption | rfl)) (by omega))) ?_)
      | (show NEWN _ _; refine NEWN.mk (by ((repeat first | apply Heap.nx_set | apply Heap.nx_new | apply Heap.nx_kill | apply Heap.nx_room); first | assumption | rfl)) ?_)
      | (show SETN _ _ _ _ _ _; refine SETN.mk (by ((repeat first | refine Heap.room_get ?_ | refine Heap.set_skip (by omega) ?_ | refine Heap.new_skip (by ((repeat first | apply Heap.nx_set | apply Heap.nx_new | apply Heap.nx_kill | apply Heap.nx_room); first | assumption | rfl)) (by omega) ?_ | refine Exd.skip (by assumption) (by omega) ?_); first | assumption | exact Heap.set_at (by omega) | exact Heap.new_at (by ((repeat first | apply Heap.nx_set | apply Heap.nx_new | apply Heap.nx_kill | apply Heap.nx_room); first | assumption | rfl)) (by omega))) (by rfl) (by (first | decide | (simp; done) | (simp; omega))) ?_)
      | (show DOESN _ _; refine DOESN.mk (by first | rfl | omega | (simp; done) | (simp; omega)) ?_)
      | (refine BC.yes (by assumption) ?_)
      | (refine BC.no (by assumption) ?_)
      | (refine BC.split (fun _ => ?_) (fun _ => ?_))
      | (refine SOMEN.mk (by rfl) ?_)
      | (refine scopeC ?_)
      | (refine drawC0 (hist := fun _ => Heap.empty 0) rfl ?_)
      | (refine drawC (hist := fun _ => Heap.empty 0) rfl ?_)
      | (show NUMN _ _; refine NUMN.mk (by ((repeat first | apply Heap.nx_set | apply Heap.nx_new | apply Heap.nx_kill | apply Heap.nx_room); first | assumption | rfl)) ?_)
      | (show LOOKN _ _ _ _ _ _; refine LOOKN.mk (by first | exact QV.load rfl (by ((repeat first | refine Heap.room_get ?_ | refine Heap.set_skip (by omega) ?_ | refine Heap.new_skip (by ((repeat first | apply Heap.nx_set | apply Heap.nx_new | apply Heap.nx_kill | apply Heap.nx_room); first | assumption | rfl)) (by omega) ?_ | refine Exd.skip (by assumption) (by omega) ?_); first | assumption | exact Heap.set_at (by omega) | exact Heap.new_at (by ((repeat first | apply Heap.nx_set | apply Heap.nx_new | apply Heap.nx_kill | apply Heap.nx_room); first | assumption | rfl)) (by omega))) (by rfl) | exact QV.loadA rfl (by ((repeat first | refine Heap.room_get ?_ | refine Heap.set_skip (by omega) ?_ | refine Heap.new_skip (by ((repeat first | apply Heap.nx_set | apply Heap.nx_new | apply Heap.nx_kill | apply Heap.nx_room); first | assumption | rfl)) (by omega) ?_ | refine Exd.skip (by assumption) (by omega) ?_); first | assumption | exact Heap.set_at (by omega) | exact Heap.new_at (by ((repeat first | apply Heap.nx_set | apply Heap.nx_new | apply Heap.nx_kill | apply Heap.nx_room); first | assumption | rfl)) (by omega))) (by rfl) (by rfl)) ?_)
      | fail)))
        refine ⟨rfl, (i + 1, i + 1, _, ws ++ [(s.drop fr).take (i - fr)]), ⟨rfl, rfl, rfl, rfl, trivial⟩, ⟨x2, ?_, ?_, c', ?_, ?_⟩, ?_⟩
        · show h.next < h2.next; omega
        · show h2.get h.next = some (.iter s (i + 1))
          rw [fr2 _ (by omega) ne]; exact gi
        · show Own h h2 _ 1 (ws ++ _).length ((ws ++ _).map CVal.str)
          rw [List.length_append, List.map_append]; exact O2
        · intro o l c e
          simp only [CVal.slice.injEq] at e; omega
        · show s.length - (i + 1) < s.length - i; omega
      · have hb : s[i] ≠ 32 := fun h => by have := (d1 h).1; omega
        refine ⟨rfl, (i + w, fr, _, ws), ⟨rfl, rfl, rfl, rfl, trivial⟩, ⟨xs, ?_, ?_, ?_, ?_, ne⟩, ?_⟩
        · show h.next < _; rw [Heap.next_set]; exact hn
        · show Heap.get _ h.next = some (.iter s (i + w)); ((repeat first | refine Heap.room_get ?_ | refine Heap.set_skip (by omega) ?_ | refine Heap.new_skip (by ((repeat first | apply Heap.nx_set | apply Heap.nx_new | apply Heap.nx_kill | apply Heap.nx_room); first | assumption | rfl)) (by omega) ?_ | refine Exd.skip (by assumption) (by omega) ?_); first | assumption | exact Heap.set_at (by omega) | exact Heap.new_at (by ((repeat first | apply Heap.nx_set | apply Heap.nx_new | apply Heap.nx_kill | apply Heap.nx_room); first | assumption | rfl)) (by omega))
        · refine c.go d4 fun j hj h1 h2 => ?_
          rcases Nat.lt_or_ge i j with h3 | h3
          · exact d5 j hj h3 h2
          · obtain rfl : j = i := by omega
            exact hb
        · exact ⟨O.1.frame fun j hj => by
            rw [Heap.get_set_ne]
            intro e; subst e; exact hj ne, fun j o l c e => by rw [Heap.next_set]; exact O.2 j o l c e⟩
        · show s.length - (i + w) < s.length - i; omega

set_option maxHeartbeats 2000000 in
theorem wordsR_cal {s : List UInt8} {h : Heap} {Q : CVal → Heap → Prop} (hs : s.length ≤ 1000) (k : ∀ v h', Exd h h' → Own h h' v 1 (splitB s).length ((splitB s).map .str) → Q v h') : Cal tt 25 [.str s] h Q := by
  refine Cal.run rfl rfl rfl rfl ?_
  (repeat' ((conv => whnf); (first
      | (refine LTN.yes (by omega) ?_)
      | (refine LTN.no (by omega) ?_)
      | (refine LTN.mk (fun _ => ?_) (fun _ => ?_))
      | (refine EQN.yes (by omega) ?_)
      | (refine EQN.no (by omega) ?_)
      | (refine EQN.mk (fun _ => ?_) (fun _ => ?_))
      | (refine EQSN.yes (by first | rfl | assumption) ?_)
      | (refine EQSN.no (by first | decide | assumption) ?_)
      | (refine EQSN.mk (fun _ => ?_) (fun _ => ?_))
      | (refine ARN.in (by omega) ?_)
      | (refine ARN.fits (by first | (apply u8_in; omega) | (apply i32_in; omega) | (apply u32_in; omega)) ?_)
      | (refine QUON.pos (by omega) ?_)
      | (refine REMN.pos (by omega) ?_)
      | (refine REMN.mk (by omega) ?_)
      | (show GETN _ _ _; refine GETN.mk (by ((repeat first | refine Heap.room_get ?_ | refine Heap.set_skip (by omega) ?_ | refine Heap.new_skip (by ((repeat first | apply Heap.nx_set | apply Heap.nx_new | apply Heap.nx_kill | apply Heap.nx_room); first | assumption | rfl)) (by omega) ?_ | refine Exd.skip (by assumption) (by omega) ?_); first | assumption | exact Heap.set_at (by omega) | exact Heap.new_at (by ((repeat first | apply Heap.nx_set | apply Heap.nx_new | apply Heap.nx_kill | apply Heap.nx_room); first | assumption | rfl)) (by omega))) ?_)
      | (show GETM _ _ _; refine GETM.mk (by ((repeat first | refine Heap.room_get ?_ | refine Heap.set_skip (by omega) ?_ | refine Heap.new_skip (by ((repeat first | apply Heap.nx_set | apply Heap.nx_new | apply Heap.nx_kill | apply Heap.nx_room); first | assumption | rfl)) (by omega) ?_ | refine Exd.skip (by assumption) (by omega) ?_); first | assumption | exact Heap.set_at (by omega) | exact Heap.new_at (by ((repeat first | apply Heap.nx_set | apply Heap.nx_new | apply Heap.nx_kill | apply Heap.nx_room); first | assumption | rfl)) (by omega))) ?_)
      | (show NEWN _ _; refine NEWN.mk (by ((repeat first | apply Heap.nx_set | apply Heap.nx_new | apply Heap.nx_kill | apply Heap.nx_room); first | assumption | rfl)) ?_)
      | (show SETN _ _ _ _ _ _; refine SETN.mk (by ((repeat first | refine Heap.room_get ?_ | refine Heap.set_skip (by omega) ?_ | refine Heap.new_skip (by ((repeat first | apply Heap.nx_set | apply Heap.nx_new | apply Heap.nx_kill | apply Heap.nx_room); first | assumption | rfl)) (by omega) ?_ | refine Exd.skip (by assumption) (by omega) ?_); first | assumption | exact Heap.set_at (by omega) | exact Heap.new_at (by ((repeat first | apply Heap.nx_set | apply Heap.nx_new | apply Heap.nx_kill | apply Heap.nx_room); first | assumption | rfl)) (by omega))) (by rfl) (by (first | decide | (simp; done) | (simp; omega))) ?_)
      | (show DOESN _ _; refine DOESN.mk (by first | rfl | omega | (simp; done) | (simp; omega)) ?_)
      | (refine BC.yes (by assumption) ?_)
      | (refine BC.no (by assumption) ?_)
      | (refine BC.split (fun _ => ?_) (fun _ => ?_))
      | (refine SOMEN.mk (by rfl) ?_)
      | (refine scopeC ?_)
      | (refine drawC0 (hist := fun _ => Heap.empty 0) rfl ?_)
      | (refine drawC (hist := fun _ => Heap.empty 0) rfl ?_)
      | (show NUMN _ _; refine NUMN.mk (by ((repeat first | apply Heap.nx_set | apply Heap.nx_new | apply Heap.nx_kill | apply Heap.nx_room); first | assumption | rfl)) ?_)
      | (show LOOKN _ _ _ _ _ _; refine LOOKN.mk (by first | exact QV.load rfl (by ((repeat first | refine Heap.room_get ?_ | refine Heap.set_skip (by omega) ?_ | refine Heap.new_skip (by ((repeat first | apply Heap.nx_set | apply Heap.nx_new | apply Heap.nx_kill | apply Heap.nx_room); first | assumption | rfl)) (by omega) ?_ | refine Exd.skip (by assumption) (by omega) ?_); first | assumption | exact Heap.set_at (by omega) | exact Heap.new_at (by ((repeat first | apply Heap.nx_set | apply Heap.nx_new | apply Heap.nx_kill | apply Heap.nx_room); first | assumption | rfl)) (by omega))) (by rfl) | exact QV.loadA rfl (by ((repeat first | refine Heap.room_get ?_ | refine Heap.set_skip (by omega) ?_ | refine Heap.new_skip (by ((repeat first | apply Heap.nx_set | apply Heap.nx_new | apply Heap.nx_kill | apply Heap.nx_room); first | assumption | rfl)) (by omega) ?_ | refine Exd.skip (by assumption) (by omega) ?_); first | assumption | exact Heap.set_at (by omega) | exact Heap.new_at (by ((repeat first | apply Heap.nx_set | apply Heap.nx_new | apply Heap.nx_kill | apply Heap.nx_room); first | assumption | rfl)) (by omega))) (by rfl) (by rfl)) ?_)
      | fail)))
  refine loopC (fun x : Nat × Nat × Nat × List (List UInt8) => [(0, .str s), (3, .slice x.2.2.1 0 x.2.2.2.length x.2.2.2.length), (4, .int .i64 x.2.1), (5, .int .i64 x.1)])
    (fun x h' => Exd h h' ∧ ((x.1 ≤ s.length ∧ Cut s x.2.2.2 x.2.1 x.1) ∨ (x.1 = s.length + 1 ∧ splitB s = x.2.2.2)) ∧ Own h h' (.slice x.2.2.1 0 x.2.2.2.length x.2.2.2.length) 1 x.2.2.2.length (x.2.2.2.map .str)) (fun x => s.length + 1 - x.1) (0, 0, h.next, []) ⟨rfl, rfl, rfl, rfl, trivial⟩
    ⟨by (repeat' first | exact Exd.refl _ | assumption | refine Exd.new ?_ | refine Exd.set ?_ (by omega) | refine Exd.kill ?_ (by omega)), .inl ⟨Nat.zero_le _, Cut.zero⟩, Own.new (by show Heap.get _ h.next = _; ((repeat first | refine Heap.room_get ?_ | refine Heap.set_skip (by omega) ?_ | refine Heap.new_skip (by ((repeat first | apply Heap.nx_set | apply Heap.nx_new | apply Heap.nx_kill | apply Heap.nx_room); first | assumption | rfl)) (by omega) ?_ | refine Exd.skip (by assumption) (by omega) ?_); first | assumption | exact Heap.set_at (by omega) | exact Heap.new_at (by ((repeat first | apply Heap.nx_set | apply Heap.nx_new | apply Heap.nx_kill | apply Heap.nx_room); first | assumption | rfl)) (by omega))) (Nat.le_refl _) (by show h.next < _; (first | omega | (dsimp only; omega) | (simp only []; omega) | (simp only [Heap.next_new]; omega) | (simp only [Heap.next_set]; omega) | (simp only [Heap.next_set, Heap.next_new]; omega) | (simp only [Heap.next_set, Heap.next_new, Heap.next_kill]; omega)))⟩ ?_
  rintro ⟨i, fr, b, ws⟩ ρ h' ⟨e, hc, O⟩
  simp only at hc O
  rcases hc with ⟨hi, c⟩ | ⟨rfl, hsp⟩
  rotate_left
  · (repeat' ((conv => whnf); (first
      | (refine LTN.yes (by omega) ?_)
      | (refine LTN.no (by omega) ?_)
      | (refine LTN.mk (fun _ => ?_) (fun _ => ?_))
      | (refine EQN.yes (by omega) ?_)
      | (refine EQN.no (by omega) ?_)
      | (refine EQN.mk (fun _ => ?_) (fun _ => ?_))
      | (refine EQSN.yes (by first | rfl | assumption) ?_)
      | (refine EQSN.no (by first | decide | assumption) ?_)
      | (refine EQSN.mk (fun _ => ?_) (fun _ => ?_))
      | (refine ARN.in (by omega) ?_)
      | (refine ARN.fits (by first | (apply u8_in; omega) | (apply i32_in; omega) | (apply u32_in; omega)) ?_)
      | (refine QUON.pos (by omega) ?_)
      | (refine REMN.pos (by omega) ?_)
      | (refine REMN.mk (by omega) ?_)
      | (show GETN _ _ _; refine GETN.mk (by ((repeat first | refine Heap.room_get ?_ | refine Heap.set_skip (by omega) ?_ | refine Heap.new_skip (by ((repeat first | apply Heap.nx_set | apply Heap.nx_new | apply Heap.nx_kill | apply Heap.nx_room); first | assumption | rfl)) (by omega) ?_ | refine Exd.skip (by assumption) (by omega) ?_); first | assumption | exact Heap.set_at (by omega) | exact Heap.new_at (by ((repeat first | apply Heap.nx_set | apply Heap.nx_new | apply Heap.nx_kill | apply Heap.nx_room); first | assumption | rfl)) (by omega))) ?_)
      | (show GETM _ _ _; refine GETM.mk (by ((repeat first | refine Heap.room_get ?_ | refine Heap.set_skip (by omega) ?_ | refine Heap.new_skip (by ((repeat first | apply Heap.nx_set | apply Heap.nx_new | apply Heap.nx_kill | apply Heap.nx_room); first | assumption | rfl)) (by omega) ?_ | refine Exd.skip (by assumption) (by omega) ?_); first | assumption | exact Heap.set_at (by omega) | exact Heap.new_at (by ((repeat first | apply Heap.nx_set | apply Heap.nx_new | apply Heap.nx_kill | apply Heap.nx_room); first | assumption | rfl)) (by omega))) ?_)
      | (show NEWN _ _; refine NEWN.mk (by ((repeat first | apply Heap.nx_set | apply Heap.nx_new | apply Heap.nx_kill | apply Heap.nx_room); first | assumption | rfl)) ?_)
      | (show SETN _ _ _ _ _ _; refine SETN.mk (by ((repeat first | refine Heap.room_get ?_ | refine Heap.set_skip (by omega) ?_ | refine Heap.new_skip (by ((repeat first | apply Heap.nx_set | apply Heap.nx_new | apply Heap.nx_kill | apply Heap.nx_room); first | assumption | rfl)) (by omega) ?_ | refine Exd.skip (by assumption) (by omega) ?_); first | assumption | exact Heap.set_at (by omega) | exact Heap.new_at (by ((repeat first | apply Heap.nx_set | apply Heap.nx_new | apply Heap.nx_kill | apply Heap.nx_room); first | assumption | rfl)) (by omega))) (by rfl) (by (first | decide | (simp; done) | (simp; omega))) ?_)
      | (show DOESN _ _; refine DOESN.mk (by first | rfl | omega | (simp; done) | (simp; omega)) ?_)
      | (refine BC.yes (by assumption) ?_)
      | (refine BC.no (by assumption) ?_)
      | (refine BC.split (fun _ => ?_) (fun _ => ?_))
      | (refine SOMEN.mk (by rfl) ?_)
      | (refine scopeC ?_)
      | (refine drawC0 (hist := fun _ => Heap.empty 0) rfl ?_)
      | (refine drawC (hist := fun _ => Heap.empty 0) rfl ?_)
      | (show NUMN _ _; refine NUMN.mk (by ((repeat first | apply Heap.nx_set | apply Heap.nx_new | apply Heap.nx_kill | apply Heap.nx_room); first | assumption | rfl)) ?_)
      | (show LOOKN _ _ _ _ _ _; refine LOOKN.mk (by first | exact QV.load rfl (by ((repeat first | refine Heap.room_get ?_ | refine Heap.set_skip (by omega) ?_ | refine Heap.new_skip (by ((repeat first | apply Heap.nx_set | apply Heap.nx_new | apply Heap.nx_kill | apply Heap.nx_room); first | assumption | rfl)) (by omega) ?_ | refine Exd.skip (by assumption) (by omega) ?_); first | assumption | exact Heap.set_at (by omega) | exact Heap.new_at (by ((repeat first | apply Heap.nx_set | apply Heap.nx_new | apply Heap.nx_kill | apply Heap.nx_room); first | assumption | rfl)) (by omega))) (by rfl) | exact QV.loadA rfl (by ((repeat first | refine Heap.room_get ?_ | refine Heap.set_skip (by omega) ?_ | refine Heap.new_skip (by ((repeat first | apply Heap.nx_set | apply Heap.nx_new | apply Heap.nx_kill | apply Heap.nx_room); first | assumption | rfl)) (by omega) ?_ | refine Exd.skip (by assumption) (by omega) ?_); first | assumption | exact Heap.set_at (by omega) | exact Heap.new_at (by ((repeat first | apply Heap.nx_set | apply Heap.nx_new | apply Heap.nx_kill | apply Heap.nx_room); first | assumption | rfl)) (by omega))) (by rfl) (by rfl)) ?_)
      | fail)))
    refine k _ _ e ?_
    rw [hsp]; exact O
  have c1 := c.h1
  have c4 := c.len
  have step : ∃ h2, appendC (h'.new (.cells [.str ((s.drop fr).take (i - fr))] true none)) 1 16 (.slice b 0 ws.length ws.length) (.slice h'.next 0 1 1) = some (.slice (h'.next + 1) 0 (ws ++ [(s.drop fr).take (i - fr)]).length (ws ++ [(s.drop fr).take (i - fr)]).length, h2) ∧ Exd h h2 ∧ Own h h2 (.slice (h'.next + 1) 0 (ws ++ [(s.drop fr).take (i - fr)]).length (ws ++ [(s.drop fr).take (i - fr)]).length) 1 (ws ++ [(s.drop fr).take (i - fr)]).length ((ws ++ [(s.drop fr).take (i - fr)]).map .str) := by
    obtain ⟨h2, eb, x2, O2, n2, _⟩ := O.push (bytes := 16) e (Exd.new (Exd.refl _)) (srcC_one (h'.get_new_same (.cells [.str ((s.drop fr).take (i - fr))] true none)) rfl (by omega)) (by omega) rfl (by omega)
    rw [Heap.next_new] at eb O2
    rw [List.length_append, List.map_append]
    exact ⟨h2, eb, x2, O2⟩
  obtain ⟨h2, eb, x2, O2⟩ := step
  by_cases hil : i = s.length
  · subst hil
    (repeat' ((conv => whnf); (first
      | (refine SOMEN.mk (bounds2 (p := fr) (q := s.length) rfl rfl c1 (Nat.le_refl _)) ?_)
      | (refine SOMEN.mk eb ?_)
      | (refine LTN.yes (by omega) ?_)
      | (refine LTN.no (by omega) ?_)
      | (refine LTN.mk (fun _ => ?_) (fun _ => ?_))
      | (refine EQN.yes (by omega) ?_)
      | (refine EQN.no (by omega) ?_)
      | (refine EQN.mk (fun _ => ?_) (fun _ => ?_))
      | (refine EQSN.yes (by first | rfl | assumption) ?_)
      | (refine EQSN.no (by first | decide | assumption) ?_)
      | (refine EQSN.mk (fun _ => ?_) (fun _ => ?_))
      | (refine ARN.in (by omega) ?_)
      | (refine ARN.fits (by first | (apply u8_in; omega) | (apply i32_in; omega) | (apply u32_in; omega)) ?_)
      | (refine QUON.pos (by omega) ?_)
      | (refine REMN.pos (by omega) ?_)
      | (refine REMN.mk (by omega) ?_)
      | (show GETN _ _ _; refine GETN.mk (by ((repeat first | refine Heap.room_get ?_ | refine Heap.set_skip (by omega) ?_ | refine Heap.new_skip (by ((repeat first | apply Heap.nx_set | apply Heap.nx_new | apply Heap.nx_kill | apply Heap.nx_room); first | assumption | rfl)) (by omega) ?_ | refine Exd.skip (by assumption) (by omega) ?_); first | assumption | exact Heap.set_at (by omega) | exact Heap.new_at (by ((repeat first | apply Heap.nx_set | apply Heap.nx_new | apply Heap.nx_kill | apply Heap.nx_room); first | assumption | rfl)) (by omega))) ?_)
      | (show GETM _ _ _; refine GETM.mk (by ((repeat first | refine Heap.room_get ?_ | refine Heap.set_skip (by omega) ?_ | refine Heap.new_skip (by ((repeat first | apply Heap.nx_set | apply Heap.nx_new | apply Heap.nx_kill | apply Heap.nx_room); first | assumption | rfl)) (by omega) ?_ | refine Exd.skip (by assumption) (by omega) ?_); first | assumption | exact Heap.set_at (by omega) | exact Heap.new_at (by ((repeat first | apply Heap.nx_set | apply Heap.nx_new | apply Heap.nx_kill | apply Heap.nx_room); first | assumption | rfl)) (by omega))) ?_)
      | (show NEWN _ _; refine NEWN.mk (by ((repeat first | apply Heap.nx_set | apply Heap.nx_new | apply Heap.nx_kill | apply Heap.nx_room); first | assumption | rfl)) ?_)
      | (show SETN _ _ _ _ _ _; refine SETN.mk (by ((repeat first | refine Heap.room_get ?_ | refine Heap.set_skip (by omega) ?_ | refine Heap.new_skip (by ((repeat first | apply Heap.nx_set | apply Heap.nx_new | apply Heap.nx_kill | apply Heap.nx_room); first | assumption | rfl)) (by omega) ?_ | refine Exd.skip (by assumption) (by omega) ?_); first | assumption | exact Heap.set_at (by omega) | exact Heap.new_at (by ((repeat first | apply Heap.nx_set | apply Heap.nx_new | apply Heap.nx_kill | apply Heap.nx_room); first | assumption | rfl)) (by omega))) (by rfl) (by (first | decide | (simp; done) | (simp; omega))) ?_)
      | (show DOESN _ _; refine DOESN.mk (by first | rfl | omega | (simp; done) | (simp; omega)) ?_)
      | (refine BC.yes (by assumption) ?_)
      | (refine BC.no (by assumption) ?_)
      | (refine BC.split (fun _ => ?_) (fun _ => ?_))
      | (refine SOMEN.mk (by rfl) ?_)
      | (refine scopeC ?_)
      | (refine drawC0 (hist := fun _ => Heap.empty 0) rfl ?_)
      | (refine drawC (hist := fun _ => Heap.empty 0) rfl ?_)
      | (show NUMN _ _; refine NUMN.mk (by ((repeat first | apply Heap.nx_set | apply Heap.nx_new | apply Heap.nx_kill | apply Heap.nx_room); first | assumption | rfl)) ?_)
      | (show LOOKN _ _ _ _ _ _; refine LOOKN.mk (by first | exact QV.load rfl (by ((repeat first | refine Heap.room_get ?_ | refine Heap.set_skip (by omega) ?_ | refine Heap.new_skip (by ((repeat first | apply Heap.nx_set | apply Heap.nx_new | apply Heap.nx_kill | apply Heap.nx_room); first | assumption | rfl)) (by omega) ?_ | refine Exd.skip (by assumption) (by omega) ?_); first | assumption | exact Heap.set_at (by omega) | exact Heap.new_at (by ((repeat first | apply Heap.nx_set | apply Heap.nx_new | apply Heap.nx_kill | apply Heap.nx_room); first | assumption | rfl)) (by omega))) (by rfl) | exact QV.loadA rfl (by ((repeat first | refine Heap.room_get ?_ | refine Heap.set_skip (by omega) ?_ | refine Heap.new_skip (by ((repeat first | apply Heap.nx_set | apply Heap.nx_new | apply Heap.nx_kill | apply Heap.nx_room); first | assumption | rfl)) (by omega) ?_ | refine Exd.skip (by assumption) (by omega) ?_); first | assumption | exact Heap.set_at (by omega) | exact Heap.new_at (by ((repeat first | apply Heap.nx_set | apply Heap.nx_new | apply Heap.nx_kill | apply Heap.nx_room); first | assumption | rfl)) (by omega))) (by rfl) (by rfl)) ?_)
      | fail)))
    refine ⟨rfl, (s.length + 1, s.length + 1, h'.next + 1, _), ⟨rfl, rfl, rfl, rfl, trivial⟩, ⟨x2, .inr ⟨rfl, c.done⟩, O2⟩, ?_⟩
    show s.length + 1 - (s.length + 1) < s.length + 1 - s.length; omega
  have hi' : i < s.length := by omega
  have hu := (s[i]).toNat_lt
  (repeat' ((conv => whnf); (first
      | (refine SOMEN.mk (a := s[i]) (by simp [hi']) ?_)
      | (refine SOMEN.mk (bounds2 (p := fr) (q := i) rfl rfl c1 hi) ?_)
      | (refine SOMEN.mk eb ?_)
      | (refine LTN.yes (by omega) ?_)
      | (refine LTN.no (by omega) ?_)
      | (refine LTN.mk (fun _ => ?_) (fun _ => ?_))
      | (refine EQN.yes (by omega) ?_)
      | (refine EQN.no (by omega) ?_)
      | (refine EQN.mk (fun _ => ?_) (fun _ => ?_))
      | (refine EQSN.yes (by first | rfl | assumption) ?_)
      | (refine EQSN.no (by first | decide | assumption) ?_)
      | (refine EQSN.mk (fun _ => ?_) (fun _ => ?_))
      | (refine ARN.in (by omega) ?_)
      | (refine ARN.fits (by first | (apply u8_in; omega) | (apply i32_in; omega) | (apply u32_in; omega)) ?_)
      | (refine QUON.pos (by omega) ?_)
      | (refine REMN.pos (by omega) ?_)
      | (refine REMN.mk (by omega) ?_)
      | (show GETN _ _ _; refine GETN.mk (by ((repeat first | refine Heap.room_get ?_ | refine Heap.set_skip (by omega) ?_ | refine Heap.new_skip (by ((repeat first | apply Heap.nx_set | apply Heap.nx_new | apply Heap.nx_kill | apply Heap.nx_room); first | assumption | rfl)) (by omega) ?_ | refine Exd.skip (by assumption) (by omega) ?_); first | assumption | exact Heap.set_at (by omega) | exact Heap.new_at (by ((repeat first | apply Heap.nx_set | apply Heap.nx_new | apply Heap.nx_kill | apply Heap.nx_room); first | assumption | rfl)) (by omega))) ?_)
      | (show GETM _ _ _; refine GETM.mk (by ((repeat first | refine Heap.room_get ?_ | refine Heap.set_skip (by omega) ?_ | refine Heap.new_skip (by ((repeat first | apply Heap.nx_set | apply Heap.nx_new | apply Heap.nx_kill | apply Heap.nx_room); first | assumption | rfl)) (by omega) ?_ | refine Exd.skip (by assumption) (by omega) ?_); first | assumption | exact Heap.set_at (by omega) | exact Heap.new_at (by ((repeat first | apply Heap.nx_set | apply Heap.nx_new | apply Heap.nx_kill | apply Heap.nx_room); first | assumption | rfl)) (by omega))) ?_)
      | (show NEWN _ _; refine NEWN.mk (by ((repeat first | apply Heap.nx_set | apply Heap.nx_new | apply Heap.nx_kill | apply Heap.nx_room); first | assumption | rfl)) ?_)
      | (show SETN _ _ _ _ _ _; refine SETN.mk (by ((repeat first | refine Heap.room_get ?_ | refine Heap.set_skip (by omega) ?_ | refine Heap.new_skip (by ((repeat first | apply Heap.nx_set | apply Heap.nx_new | apply Heap.nx_kill | apply Heap.nx_room); first | assumption | rfl)) (by omega) ?_ | refine Exd.skip (by assumption) (by omega) ?_); first | assumption | exact Heap.set_at (by omega) | exact Heap.new_at (by ((repeat first | apply Heap.nx_set | apply Heap.nx_new | apply Heap.nx_kill | apply Heap.nx_room); first | assumption | rfl)) (by omega))) (by rfl) (by (first | decide | (simp; done) | (simp; omega))) ?_)
      | (show DOESN _ _; refine DOESN.mk (by first | rfl | omega | (simp; done) | (simp; omega)) ?_)
      | (refine BC.yes (by assumption) ?_)
      | (refine BC.no (by assumption) ?_)
      | (refine BC.split (fun _ => ?_) (fun _ => ?_))
      | (refine SOMEN.mk (by rfl) ?_)
      | (refine scopeC ?_)
      | (refine drawC0 (hist := fun _ => Heap.empty 0) rfl ?_)
      | (refine drawC (hist := fun _ => Heap.empty 0) rfl ?_)
      | (show NUMN _ _; refine NUMN.mk (by ((repeat first | apply Heap.nx_set | apply Heap.nx_new | apply Heap.nx_kill | apply Heap.nx_room); first | assumption | rfl)) ?_)
      | (show LOOKN _ _ _ _ _ _; refine LOOKN.mk (by first | exact QV.load rfl (by ((repeat first | refine Heap.room_get ?_ | refine Heap.set_skip (by omega) ?_ | refine Heap.new_skip (by ((repeat first | apply Heap.nx_set | apply Heap.nx_new | apply Heap.nx_kill | apply Heap.nx_room); first | assumption | rfl)) (by omega) ?_ | refine Exd.skip (by assumption) (by omega) ?_); first | assumption | exact Heap.set_at (by omega) | exact Heap.new_at (by ((repeat first | apply Heap.nx_set | apply Heap.nx_new | apply Heap.nx_kill | apply Heap.nx_room); first | assumption | rfl)) (by omega))) (by rfl) | exact QV.loadA rfl (by ((repeat first | refine Heap.room_get ?_ | refine Heap.set_skip (by omega) ?_ | refine Heap.new_skip (by ((repeat first | apply Heap.nx_set | apply Heap.nx_new | apply Heap.nx_kill | apply Heap.nx_room); first | assumption | rfl)) (by omega) ?_ | refine Exd.skip (by assumption) (by omega) ?_); first | assumption | exact Heap.set_at (by omega) | exact Heap.new_at (by ((repeat first | apply Heap.nx_set | apply Heap.nx_new | apply Heap.nx_kill | apply Heap.nx_room); first | assumption | rfl)) (by omega))) (by rfl) (by rfl)) ?_)
      | fail)))
  · have hb : s[i] = 32 := u8_32.2 (by omega)
    refine ⟨rfl, (i + 1, i + 1, h'.next + 1, _), ⟨rfl, rfl, rfl, rfl, trivial⟩, ⟨x2, .inl ⟨hi', c.blank hi' hb⟩, O2⟩, ?_⟩
    show s.length + 1 - (i + 1) < s.length + 1 - i; omega
  · have hb : s[i] ≠ 32 := fun h => by have := u8_32.1 h; omega
    refine ⟨rfl, (i + 1, fr, b, ws), ⟨rfl, rfl, rfl, rfl, trivial⟩, ⟨e, .inl ⟨hi', c.go hi' fun j hj h1 h2 => ?_⟩, O⟩, ?_⟩
    · obtain rfl : j = i := by omega
      exact hb
    · show s.length + 1 - (i + 1) < s.length + 1 - i; omega
end Go.Proofs.YtmppoknfekdbbaaDoor.Cm
