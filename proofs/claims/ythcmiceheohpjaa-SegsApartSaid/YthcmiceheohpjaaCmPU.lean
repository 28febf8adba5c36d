/-
  The law SegsApart on the clean machine.
-/
import Derived.Test.YthcmiceheohpjaaCmYB
import Derived.Test.YthcmiceheohpjaaCmPT
namespace Go.Proofs.Ythcmiceheohpjaa.Cm
open Go.RowKit Go.IntWalk
attribute [local irreducible] Heap.set Heap.new Heap.kill Heap.get Heap.room Cal WP

theorem taken1_cal {p b c1 c2 i m : Nat} {f s : Int} {l : List Bool} {v : CVal} {cs : List CVal} {h : Heap} {Q : CVal → Heap → Prop} (hs : IsSegs h p b f s l) (r : InRange f s l.length) (hi : i < l.length)
    (g1 : h.get c1 = some (.cells [v] true none)) (g2 : h.get c2 = some (.cells [.ptr p 0] true none)) (hv : IsSl h v 1 m cs) (hm : m ≤ 8192) (lo : vne c1 v) (hc : c1 < h.next) (hvn : ∀ j o l c, v = .slice j o l c → j < h.next)
    (k : ∀ h' v', h'.get c1 = some (.cells [v'] true none) → IsSl h' v' 1 (m + 1) (cs ++ [.int .i64 (f + i * s)]) → vlo h.next v' → (∀ j o l c, v' = .slice j o l c → j < h'.next) → h.next ≤ h'.next → (∀ j, j < h.next → j ≠ c1 → vne j v → h'.get j = h.get j) → Q (.bool true) h') :
    Cal tt 28 [.int .i64 i, .ptr c1 0, .ptr c2 0] h Q := by
  have hs0 := hs
  obtain ⟨hp, hb, ne, lp, lb⟩ := hs
  have mm := r.mul (Nat.le_of_lt hi)
  have r0 := r
  obtain ⟨_, _, _, _, _⟩ := r0
  have H : ∀ h₀ : Heap, h₀ = h.new (.cells [.int .i64 (f + i * s)] true none) → IsSl h₀ v 1 m cs ∧ srcC h₀ 1 (.slice h.next 0 1 1) = some (1, [.int .i64 (f + i * s)]) := by
    rintro h₀ rfl
    exact ⟨hv.exd (Exd.new (Exd.refl h)) hvn, srcC_one (h.get_new_same _) rfl (by omega)⟩
  have hv0 := hv
  have fin : ∀ h2 : Heap, h2.next = h.next + 1 + 1 → h2.get (h.next + 1) = some (.cells (cs ++ [.int .i64 (f + i * s)]) true (some 1)) → (∀ j, j < h.next + 1 → vne j v → h2.get j = (h.new (.cells [.int .i64 (f + i * s)] true none)).get j) →
      Q (.bool true) (h2.set c1 (.cells [.slice (h.next + 1) 0 (m + 1) (m + 1)] true none)) := by
    intro h2 en eg ef
    refine k _ (.slice (h.next + 1) 0 (m + 1) (m + 1)) (by ((repeat first | refine Heap.room_get ?_ | refine Heap.set_skip (by omega) ?_ | refine Heap.new_skip (by ((repeat first | apply Heap.nx_set | apply Heap.nx_new | apply Heap.nx_kill | apply Heap.nx_room); first | assumption | rfl)) (by omega) ?_ | refine Exd.skip (by assumption) (by omega) ?_); first | assumption | exact Heap.set_at (by omega) | exact Heap.new_at (by ((repeat first | apply Heap.nx_set | apply Heap.nx_new | apply Heap.nx_kill | apply Heap.nx_room); first | assumption | rfl)) (by omega))) (.inr ⟨h.next + 1, true, some 1, rfl, ?_, by ((repeat first | refine Heap.room_get ?_ | refine Heap.set_skip (by omega) ?_ | refine Heap.new_skip (by ((repeat first | apply Heap.nx_set | apply Heap.nx_new | apply Heap.nx_kill | apply Heap.nx_room); first | assumption | rfl)) (by omega) ?_ | refine Exd.skip (by assumption) (by omega) ?_); first | assumption | exact Heap.set_at (by omega) | exact Heap.new_at (by ((repeat first | apply Heap.nx_set | apply Heap.nx_new | apply Heap.nx_kill | apply Heap.nx_room); first | assumption | rfl)) (by omega)), .inr ⟨rfl, rfl⟩⟩) (vlo_slice (by omega)) (fun j o l c e => ?_) (by rw [Heap.next_set]; omega) (fun j hj hne hvj => ?_)
    · rw [List.length_append, hv.len]; rfl
    · simp only [CVal.slice.injEq] at e; rw [Heap.next_set]; omega
    · exact Heap.set_skip hne ((ef j (by omega) hvj).trans (h.get_new_ne j _ (by omega)))
  refine Cal.run rfl rfl rfl rfl ?_
  rcases hv0 with ⟨rfl, rfl, rfl⟩ | ⟨bb, wr, opn, rfl, e1, e2, e3⟩
  all_goals
    (repeat' ((conv => whnf); (first
      | refine CALLN.of (at_cal hs0 (by omega) (by omega) ?_)
      | refine LTN.yes (by omega) ?_
      | refine LTN.no (by omega) ?_
      | refine LTN.mk (fun _ => ?_) (fun _ => ?_)
      | refine EQN.yes (by omega) ?_
      | refine EQN.no (by omega) ?_
      | refine EQN.mk (fun _ => ?_) (fun _ => ?_)
      | refine EQSN.yes (by first | rfl | assumption) ?_
      | refine EQSN.no (by first | decide | assumption) ?_
      | refine EQSN.mk (fun _ => ?_) (fun _ => ?_)
      | refine ARN.in (by omega) ?_
      | refine ARN.fits (by first | (apply u8_in; omega) | (apply i32_in; omega) | (apply u32_in; omega)) ?_
      | refine QUON.pos (by omega) ?_
      | refine REMN.pos (by omega) ?_
      | refine REMN.mk (by omega) ?_
      | refine GETN.mk (by ((repeat first | refine Heap.room_get ?_ | refine Heap.set_skip (by omega) ?_ | refine Heap.new_skip (by ((repeat first | apply Heap.nx_set | apply Heap.nx_new | apply Heap.nx_kill | apply Heap.nx_room); first | assumption | rfl)) (by omega) ?_ | refine Exd.skip (by assumption) (by omega) ?_); first | assumption | exact Heap.set_at (by omega) | exact Heap.new_at (by ((repeat first | apply Heap.nx_set | apply Heap.nx_new | apply Heap.nx_kill | apply Heap.nx_room); first | assumption | rfl)) (by omega))) ?_
      | refine GETM.mk (by ((repeat first | refine Heap.room_get ?_ | refine Heap.set_skip (by omega) ?_ | refine Heap.new_skip (by ((repeat first | apply Heap.nx_set | apply Heap.nx_new | apply Heap.nx_kill | apply Heap.nx_room); first | assumption | rfl)) (by omega) ?_ | refine Exd.skip (by assumption) (by omega) ?_); first | assumption | exact Heap.set_at (by omega) | exact Heap.new_at (by ((repeat first | apply Heap.nx_set | apply Heap.nx_new | apply Heap.nx_kill | apply Heap.nx_room); first | assumption | rfl)) (by omega))) ?_
      | refine NEWN.mk (by ((repeat first | apply Heap.nx_set | apply Heap.nx_new | apply Heap.nx_kill | apply Heap.nx_room); first | assumption | rfl)) ?_
      | refine SETN.mk (by ((repeat first | refine Heap.room_get ?_ | refine Heap.set_skip (by omega) ?_ | refine Heap.new_skip (by ((repeat first | apply Heap.nx_set | apply Heap.nx_new | apply Heap.nx_kill | apply Heap.nx_room); first | assumption | rfl)) (by omega) ?_ | refine Exd.skip (by assumption) (by omega) ?_); first | assumption | exact Heap.set_at (by omega) | exact Heap.new_at (by ((repeat first | apply Heap.nx_set | apply Heap.nx_new | apply Heap.nx_kill | apply Heap.nx_room); first | assumption | rfl)) (by omega))) (by rfl) (by (first | decide | (simp; done) | (simp; omega))) ?_
      | refine DOESN.mk (by first | rfl | omega | (simp; done) | (simp; omega)) ?_
      | refine BC.yes (by assumption) ?_
      | refine BC.no (by assumption) ?_
      | refine BC.split (fun _ => ?_) (fun _ => ?_)
      | refine SOMEN.mk (by rfl) ?_
      | refine scopeC ?_
      | refine drawC0 (hist := fun _ => Heap.empty 0) rfl ?_
      | refine drawC (hist := fun _ => Heap.empty 0) rfl ?_
      | refine NUMN.mk (by ((repeat first | apply Heap.nx_set | apply Heap.nx_new | apply Heap.nx_kill | apply Heap.nx_room); first | assumption | rfl)) ?_
      | refine LOOKN.mk (by first | exact QV.load rfl (by ((repeat first | refine Heap.room_get ?_ | refine Heap.set_skip (by omega) ?_ | refine Heap.new_skip (by ((repeat first | apply Heap.nx_set | apply Heap.nx_new | apply Heap.nx_kill | apply Heap.nx_room); first | assumption | rfl)) (by omega) ?_ | refine Exd.skip (by assumption) (by omega) ?_); first | assumption | exact Heap.set_at (by omega) | exact Heap.new_at (by ((repeat first | apply Heap.nx_set | apply Heap.nx_new | apply Heap.nx_kill | apply Heap.nx_room); first | assumption | rfl)) (by omega))) (by rfl) | exact QV.loadA rfl (by ((repeat first | refine Heap.room_get ?_ | refine Heap.set_skip (by omega) ?_ | refine Heap.new_skip (by ((repeat first | apply Heap.nx_set | apply Heap.nx_new | apply Heap.nx_kill | apply Heap.nx_room); first | assumption | rfl)) (by omega) ?_ | refine Exd.skip (by assumption) (by omega) ?_); first | assumption | exact Heap.set_at (by omega) | exact Heap.new_at (by ((repeat first | apply Heap.nx_set | apply Heap.nx_new | apply Heap.nx_kill | apply Heap.nx_room); first | assumption | rfl)) (by omega))) (by rfl) (by rfl)) ?_)))
    obtain ⟨hv1, hx⟩ := H _ rfl
    obtain ⟨h2, e, en, eg, ef⟩ := appendC_sl (bytes := 8) hv1 hx (by omega) rfl (by omega)
    simp only [Heap.next_new] at e en eg ef
    refine SOMEN.mk e ?_
    have g3 := (ef c1 (by omega) lo).trans (Heap.new_skip rfl (by omega) g1)
    (repeat' ((conv => whnf); (first
      | refine LTN.yes (by omega) ?_
      | refine LTN.no (by omega) ?_
      | refine LTN.mk (fun _ => ?_) (fun _ => ?_)
      | refine EQN.yes (by omega) ?_
      | refine EQN.no (by omega) ?_
      | refine EQN.mk (fun _ => ?_) (fun _ => ?_)
      | refine EQSN.yes (by first | rfl | assumption) ?_
      | refine EQSN.no (by first | decide | assumption) ?_
      | refine EQSN.mk (fun _ => ?_) (fun _ => ?_)
      | refine ARN.in (by omega) ?_
      | refine ARN.fits (by first | (apply u8_in; omega) | (apply i32_in; omega) | (apply u32_in; omega)) ?_
      | refine QUON.pos (by omega) ?_
      | refine REMN.pos (by omega) ?_
      | refine REMN.mk (by omega) ?_
      | refine GETN.mk (by ((repeat first | refine Heap.room_get ?_ | refine Heap.set_skip (by omega) ?_ | refine Heap.new_skip (by ((repeat first | apply Heap.nx_set | apply Heap.nx_new | apply Heap.nx_kill | apply Heap.nx_room); first | assumption | rfl)) (by omega) ?_ | refine Exd.skip (by assumption) (by omega) ?_); first | assumption | exact Heap.set_at (by omega) | exact Heap.new_at (by ((repeat first | apply Heap.nx_set | apply Heap.nx_new | apply Heap.nx_kill | apply Heap.nx_room); first | assumption | rfl)) (by omega))) ?_
      | refine GETM.mk (by ((repeat first | refine Heap.room_get ?_ | refine Heap.set_skip (by omega) ?_ | refine Heap.new_skip (by ((repeat first | apply Heap.nx_set | apply Heap.nx_new | apply Heap.nx_kill | apply Heap.nx_room); first | assumption | rfl)) (by omega) ?_ | refine Exd.skip (by assumption) (by omega) ?_); first | assumption | exact Heap.set_at (by omega) | exact Heap.new_at (by ((repeat first | apply Heap.nx_set | apply Heap.nx_new | apply Heap.nx_kill | apply Heap.nx_room); first | assumption | rfl)) (by omega))) ?_
      | refine NEWN.mk (by ((repeat first | apply Heap.nx_set | apply Heap.nx_new | apply Heap.nx_kill | apply Heap.nx_room); first | assumption | rfl)) ?_
      | refine SETN.mk (by ((repeat first | refine Heap.room_get ?_ | refine Heap.set_skip (by omega) ?_ | refine Heap.new_skip (by ((repeat first | apply Heap.nx_set | apply Heap.nx_new | apply Heap.nx_kill | apply Heap.nx_room); first | assumption | rfl)) (by omega) ?_ | refine Exd.skip (by assumption) (by omega) ?_); first | assumption | exact Heap.set_at (by omega) | exact Heap.new_at (by ((repeat first | apply Heap.nx_set | apply Heap.nx_new | apply Heap.nx_kill | apply Heap.nx_room); first | assumption | rfl)) (by omega))) (by rfl) (by (first | decide | (simp; done) | (simp; omega))) ?_
      | refine DOESN.mk (by first | rfl | omega | (simp; done) | (simp; omega)) ?_
      | refine BC.yes (by assumption) ?_
      | refine BC.no (by assumption) ?_
      | refine BC.split (fun _ => ?_) (fun _ => ?_)
      | refine SOMEN.mk (by rfl) ?_
      | refine scopeC ?_
      | refine drawC0 (hist := fun _ => Heap.empty 0) rfl ?_
      | refine drawC (hist := fun _ => Heap.empty 0) rfl ?_
      | refine NUMN.mk (by ((repeat first | apply Heap.nx_set | apply Heap.nx_new | apply Heap.nx_kill | apply Heap.nx_room); first | assumption | rfl)) ?_
      | refine LOOKN.mk (by first | exact QV.load rfl (by ((repeat first | refine Heap.room_get ?_ | refine Heap.set_skip (by omega) ?_ | refine Heap.new_skip (by ((repeat first | apply Heap.nx_set | apply Heap.nx_new | apply Heap.nx_kill | apply Heap.nx_room); first | assumption | rfl)) (by omega) ?_ | refine Exd.skip (by assumption) (by omega) ?_); first | assumption | exact Heap.set_at (by omega) | exact Heap.new_at (by ((repeat first | apply Heap.nx_set | apply Heap.nx_new | apply Heap.nx_kill | apply Heap.nx_room); first | assumption | rfl)) (by omega))) (by rfl) | exact QV.loadA rfl (by ((repeat first | refine Heap.room_get ?_ | refine Heap.set_skip (by omega) ?_ | refine Heap.new_skip (by ((repeat first | apply Heap.nx_set | apply Heap.nx_new | apply Heap.nx_kill | apply Heap.nx_room); first | assumption | rfl)) (by omega) ?_ | refine Exd.skip (by assumption) (by omega) ?_); first | assumption | exact Heap.set_at (by omega) | exact Heap.new_at (by ((repeat first | apply Heap.nx_set | apply Heap.nx_new | apply Heap.nx_kill | apply Heap.nx_room); first | assumption | rfl)) (by omega))) (by rfl) (by rfl)) ?_)))
    exact fin h2 en eg ef

/-- Where those begin that are taken. -/
def takenL (f s : Int) : Nat → List Bool → List CVal
  | _, [] => []
  | i, x :: l => if x then .int .i64 (f + i * s) :: takenL f s (i + 1) l else takenL f s (i + 1) l
theorem takenL_len (f s : Int) : ∀ (i : Nat) (l : List Bool), (takenL f s i l).length = l.count true
  | _, [] => rfl
  | i, x :: l => by cases x <;> simp [takenL, takenL_len f s (i + 1) l]
theorem takenL_app (f s : Int) : ∀ (i : Nat) (l l' : List Bool), takenL f s i (l ++ l') = takenL f s i l ++ takenL f s (i + l.length) l'
  | i, [], l' => by simp [takenL]
  | i, x :: l, l' => by
    have := takenL_app f s (i + 1) l l'
    have e : i + (l.length + 1) = i + 1 + l.length := by omega
    cases x <;> simp [takenL, this, e]
theorem takenL_take (f s : Int) (l : List Bool) (i : Nat) (hi : i < l.length) : takenL f s 0 (l.take (i + 1)) = takenL f s 0 (l.take i) ++ if l[i] then [.int .i64 (f + i * s)] else [] := by
  rw [List.take_add_one, List.getElem?_eq_getElem hi, takenL_app]
  have e : (l.take i).length = i := by rw [List.length_take]; omega
  simp only [Option.toList_some, takenL, e, Nat.zero_add]

theorem taken_cal {p b : Nat} {f s : Int} {l : List Bool} {h : Heap} {Q : CVal → Heap → Prop} (hs : IsSegs h p b f s l) (r : InRange f s l.length)
    (k : ∀ h' v, IsSl h' v 1 (l.count true) (takenL f s 0 l) → IsSegs h' p b f s l → Exd h h' → Q v h') : Cal tt 12 [.ptr p 0] h Q := by
  have hs0 := hs
  obtain ⟨hp, hb, ne, lp, lb⟩ := hs
  refine Cal.run rfl rfl rfl rfl ?_
  (repeat' ((conv => whnf); (first
      | refine LTN.yes (by omega) ?_
      | refine LTN.no (by omega) ?_
      | refine LTN.mk (fun _ => ?_) (fun _ => ?_)
      | refine EQN.yes (by omega) ?_
      | refine EQN.no (by omega) ?_
      | refine EQN.mk (fun _ => ?_) (fun _ => ?_)
      | refine EQSN.yes (by first | rfl | assumption) ?_
      | refine EQSN.no (by first | decide | assumption) ?_
      | refine EQSN.mk (fun _ => ?_) (fun _ => ?_)
      | refine ARN.in (by omega) ?_
      | refine ARN.fits (by first | (apply u8_in; omega) | (apply i32_in; omega) | (apply u32_in; omega)) ?_
      | refine QUON.pos (by omega) ?_
      | refine REMN.pos (by omega) ?_
      | refine REMN.mk (by omega) ?_
      | refine GETN.mk (by ((repeat first | refine Heap.room_get ?_ | refine Heap.set_skip (by omega) ?_ | refine Heap.new_skip (by ((repeat first | apply Heap.nx_set | apply Heap.nx_new | apply Heap.nx_kill | apply Heap.nx_room); first | assumption | rfl)) (by omega) ?_ | refine Exd.skip (by assumption) (by omega) ?_); first | assumption | exact Heap.set_at (by omega) | exact Heap.new_at (by ((repeat first | apply Heap.nx_set | apply Heap.nx_new | apply Heap.nx_kill | apply Heap.nx_room); first | assumption | rfl)) (by omega))) ?_
      | refine GETM.mk (by ((repeat first | refine Heap.room_get ?_ | refine Heap.set_skip (by omega) ?_ | refine Heap.new_skip (by ((repeat first | apply Heap.nx_set | apply Heap.nx_new | apply Heap.nx_kill | apply Heap.nx_room); first | assumption | rfl)) (by omega) ?_ | refine Exd.skip (by assumption) (by omega) ?_); first | assumption | exact Heap.set_at (by omega) | exact Heap.new_at (by ((repeat first | apply Heap.nx_set | apply Heap.nx_new | apply Heap.nx_kill | apply Heap.nx_room); first | assumption | rfl)) (by omega))) ?_
      | refine NEWN.mk (by ((repeat first | apply Heap.nx_set | apply Heap.nx_new | apply Heap.nx_kill | apply Heap.nx_room); first | assumption | rfl)) ?_
      | refine SETN.mk (by ((repeat first | refine Heap.room_get ?_ | refine Heap.set_skip (by omega) ?_ | refine Heap.new_skip (by ((repeat first | apply Heap.nx_set | apply Heap.nx_new | apply Heap.nx_kill | apply Heap.nx_room); first | assumption | rfl)) (by omega) ?_ | refine Exd.skip (by assumption) (by omega) ?_); first | assumption | exact Heap.set_at (by omega) | exact Heap.new_at (by ((repeat first | apply Heap.nx_set | apply Heap.nx_new | apply Heap.nx_kill | apply Heap.nx_room); first | assumption | rfl)) (by omega))) (by rfl) (by (first | decide | (simp; done) | (simp; omega))) ?_
      | refine DOESN.mk (by first | rfl | omega | (simp; done) | (simp; omega)) ?_
      | refine BC.yes (by assumption) ?_
      | refine BC.no (by assumption) ?_
      | refine BC.split (fun _ => ?_) (fun _ => ?_)
      | refine SOMEN.mk (by rfl) ?_
      | refine scopeC ?_
      | refine drawC0 (hist := fun _ => Heap.empty 0) rfl ?_
      | refine drawC (hist := fun _ => Heap.empty 0) rfl ?_
      | refine NUMN.mk (by ((repeat first | apply Heap.nx_set | apply Heap.nx_new | apply Heap.nx_kill | apply Heap.nx_room); first | assumption | rfl)) ?_
      | refine LOOKN.mk (by first | exact QV.load rfl (by ((repeat first | refine Heap.room_get ?_ | refine Heap.set_skip (by omega) ?_ | refine Heap.new_skip (by ((repeat first | apply Heap.nx_set | apply Heap.nx_new | apply Heap.nx_kill | apply Heap.nx_room); first | assumption | rfl)) (by omega) ?_ | refine Exd.skip (by assumption) (by omega) ?_); first | assumption | exact Heap.set_at (by omega) | exact Heap.new_at (by ((repeat first | apply Heap.nx_set | apply Heap.nx_new | apply Heap.nx_kill | apply Heap.nx_room); first | assumption | rfl)) (by omega))) (by rfl) | exact QV.loadA rfl (by ((repeat first | refine Heap.room_get ?_ | refine Heap.set_skip (by omega) ?_ | refine Heap.new_skip (by ((repeat first | apply Heap.nx_set | apply Heap.nx_new | apply Heap.nx_kill | apply Heap.nx_room); first | assumption | rfl)) (by omega) ?_ | refine Exd.skip (by assumption) (by omega) ?_); first | assumption | exact Heap.set_at (by omega) | exact Heap.new_at (by ((repeat first | apply Heap.nx_set | apply Heap.nx_new | apply Heap.nx_kill | apply Heap.nx_room); first | assumption | rfl)) (by omega))) (by rfl) (by rfl)) ?_)))
  refine CALLN.of (those_cal (b := b) (f := f) (s := s) (l := l)
    (fun i h' => Exd h h' ∧ h'.get h.next = some (.cells [.ptr p 0] true none) ∧ h.next + 1 < h'.next ∧ ∃ v, h'.get (h.next + 1) = some (.cells [v] true none) ∧ IsSl h' v 1 ((l.take i).count true) (takenL f s 0 (l.take i)) ∧ vlo (h.next + 2) v ∧ ∀ j o l c, v = .slice j o l c → j < h'.next)
    (fun h' => Exd h h' ∧ ∃ v, h'.get (h.next + 1) = some (.cells [v] true none) ∧ h.next + 1 < h'.next ∧ IsSl h' v 1 (l.count true) (takenL f s 0 l) ∧ vlo (h.next + 2) v)
    (by have := r.2.2.2.2; omega) ?_ ⟨(by (repeat' first | exact Exd.refl _ | assumption | refine Exd.new ?_ | refine Exd.set ?_ (by omega) | refine Exd.kill ?_ (by omega))), (by ((repeat first | refine Heap.room_get ?_ | refine Heap.set_skip (by omega) ?_ | refine Heap.new_skip (by ((repeat first | apply Heap.nx_set | apply Heap.nx_new | apply Heap.nx_kill | apply Heap.nx_room); first | assumption | rfl)) (by omega) ?_ | refine Exd.skip (by assumption) (by omega) ?_); first | assumption | exact Heap.set_at (by omega) | exact Heap.new_at (by ((repeat first | apply Heap.nx_set | apply Heap.nx_new | apply Heap.nx_kill | apply Heap.nx_room); first | assumption | rfl)) (by omega))), (by (first | omega | (simp only [Heap.next_new]; omega) | (simp only [Heap.next_set]; omega) | (simp only [Heap.next_set, Heap.next_new]; omega) | (simp only [Heap.next_set, Heap.next_new, Heap.next_kill]; omega))), .nilSlice, (by ((repeat first | refine Heap.room_get ?_ | refine Heap.set_skip (by omega) ?_ | refine Heap.new_skip (by ((repeat first | apply Heap.nx_set | apply Heap.nx_new | apply Heap.nx_kill | apply Heap.nx_room); first | assumption | rfl)) (by omega) ?_ | refine Exd.skip (by assumption) (by omega) ?_); first | assumption | exact Heap.set_at (by omega) | exact Heap.new_at (by ((repeat first | apply Heap.nx_set | apply Heap.nx_new | apply Heap.nx_kill | apply Heap.nx_room); first | assumption | rfl)) (by omega))), .nil, vlo_nil _, fun _ _ _ _ e => by simp at e⟩ ⟨by ((repeat first | refine Heap.room_get ?_ | refine Heap.set_skip (by omega) ?_ | refine Heap.new_skip (by ((repeat first | apply Heap.nx_set | apply Heap.nx_new | apply Heap.nx_kill | apply Heap.nx_room); first | assumption | rfl)) (by omega) ?_ | refine Exd.skip (by assumption) (by omega) ?_); first | assumption | exact Heap.set_at (by omega) | exact Heap.new_at (by ((repeat first | apply Heap.nx_set | apply Heap.nx_new | apply Heap.nx_kill | apply Heap.nx_room); first | assumption | rfl)) (by omega)), by ((repeat first | refine Heap.room_get ?_ | refine Heap.set_skip (by omega) ?_ | refine Heap.new_skip (by ((repeat first | apply Heap.nx_set | apply Heap.nx_new | apply Heap.nx_kill | apply Heap.nx_room); first | assumption | rfl)) (by omega) ?_ | refine Exd.skip (by assumption) (by omega) ?_); first | assumption | exact Heap.set_at (by omega) | exact Heap.new_at (by ((repeat first | apply Heap.nx_set | apply Heap.nx_new | apply Heap.nx_kill | apply Heap.nx_room); first | assumption | rfl)) (by omega)), ne, (by (first | omega | (simp only [Heap.next_new]; omega) | (simp only [Heap.next_set]; omega) | (simp only [Heap.next_set, Heap.next_new]; omega) | (simp only [Heap.next_set, Heap.next_new, Heap.next_kill]; omega))), (by (first | omega | (simp only [Heap.next_new]; omega) | (simp only [Heap.next_set]; omega) | (simp only [Heap.next_set, Heap.next_new]; omega) | (simp only [Heap.next_set, Heap.next_new, Heap.next_kill]; omega)))⟩ ?_ ?_ ?_ ?_)
  · rintro i h' ⟨e, _⟩; exact Exd.skip e lb hb
  · rintro i h' hi hne ⟨e, g, hn, v, gv, sl, lo, hi'⟩
    have hf : l[i] = false := by simpa using hne
    refine ⟨e, g, hn, v, gv, ?_, lo, hi'⟩
    rw [take_add_count l true i hi, takenL_take f s l i hi, hf]
    simpa using sl
  · rintro i h' hi he ⟨e, g, hn, v, gv, sl, lo, hi'⟩
    have hs' : IsSegs h' p b f s l := ⟨Exd.skip e lp hp, Exd.skip e lb hb, ne, by have := e.le; omega, by have := e.le; omega⟩
    have hc : (l.take i).count true ≤ i := by
      have := List.count_le_length (a := true) (l := l.take i)
      rw [List.length_take] at this; omega
    refine taken1_cal hs' r hi gv g sl (by have := r.2.2.2.2; omega) (lo.ne (by omega)) (by omega) hi' fun h2 v' gv' sl' lo' hi2 le fr => ?_
    refine .inl ⟨rfl, ⟨Nat.le_trans e.le le, fun j hj => (fr j (by omega) (by omega) (lo.ne (by omega))).trans (e.get j hj)⟩, (fr _ (by omega) (by omega) (lo.ne (by omega))).trans g, by omega, v', gv', ?_, lo'.mono (by omega), hi2⟩
    rw [take_add_count l true i hi, takenL_take f s l i hi, he]
    simpa using sl'
  · rintro h' ⟨e, g, hn, v, gv, sl, lo, hi'⟩
    rw [List.take_length] at sl
    exact ⟨e, v, gv, hn, sl, lo⟩
  · rintro h' ⟨e, v, gv, hn, sl, lo⟩
    have hp' := Exd.skip e lp hp
    have hb' := Exd.skip e lb hb
    have le := e.le
    rcases id sl with ⟨rfl, _, _⟩ | ⟨bb, wr, opn, rfl, e1, e2, e3⟩
    all_goals
      (repeat' ((conv => whnf); (first
      | refine LTN.yes (by omega) ?_
      | refine LTN.no (by omega) ?_
      | refine LTN.mk (fun _ => ?_) (fun _ => ?_)
      | refine EQN.yes (by omega) ?_
      | refine EQN.no (by omega) ?_
      | refine EQN.mk (fun _ => ?_) (fun _ => ?_)
      | refine EQSN.yes (by first | rfl | assumption) ?_
      | refine EQSN.no (by first | decide | assumption) ?_
      | refine EQSN.mk (fun _ => ?_) (fun _ => ?_)
      | refine ARN.in (by omega) ?_
      | refine ARN.fits (by first | (apply u8_in; omega) | (apply i32_in; omega) | (apply u32_in; omega)) ?_
      | refine QUON.pos (by omega) ?_
      | refine REMN.pos (by omega) ?_
      | refine REMN.mk (by omega) ?_
      | refine GETN.mk (by ((repeat first | refine Heap.room_get ?_ | refine Heap.set_skip (by omega) ?_ | refine Heap.new_skip (by ((repeat first | apply Heap.nx_set | apply Heap.nx_new | apply Heap.nx_kill | apply Heap.nx_room); first | assumption | rfl)) (by omega) ?_ | refine Exd.skip (by assumption) (by omega) ?_); first | assumption | exact Heap.set_at (by omega) | exact Heap.new_at (by ((repeat first | apply Heap.nx_set | apply Heap.nx_new | apply Heap.nx_kill | apply Heap.nx_room); first | assumption | rfl)) (by omega))) ?_
      | refine GETM.mk (by ((repeat first | refine Heap.room_get ?_ | refine Heap.set_skip (by omega) ?_ | refine Heap.new_skip (by ((repeat first | apply Heap.nx_set | apply Heap.nx_new | apply Heap.nx_kill | apply Heap.nx_room); first | assumption | rfl)) (by omega) ?_ | refine Exd.skip (by assumption) (by omega) ?_); first | assumption | exact Heap.set_at (by omega) | exact Heap.new_at (by ((repeat first | apply Heap.nx_set | apply Heap.nx_new | apply Heap.nx_kill | apply Heap.nx_room); first | assumption | rfl)) (by omega))) ?_
      | refine NEWN.mk (by ((repeat first | apply Heap.nx_set | apply Heap.nx_new | apply Heap.nx_kill | apply Heap.nx_room); first | assumption | rfl)) ?_
      | refine SETN.mk (by ((repeat first | refine Heap.room_get ?_ | refine Heap.set_skip (by omega) ?_ | refine Heap.new_skip (by ((repeat first | apply Heap.nx_set | apply Heap.nx_new | apply Heap.nx_kill | apply Heap.nx_room); first | assumption | rfl)) (by omega) ?_ | refine Exd.skip (by assumption) (by omega) ?_); first | assumption | exact Heap.set_at (by omega) | exact Heap.new_at (by ((repeat first | apply Heap.nx_set | apply Heap.nx_new | apply Heap.nx_kill | apply Heap.nx_room); first | assumption | rfl)) (by omega))) (by rfl) (by (first | decide | (simp; done) | (simp; omega))) ?_
      | refine DOESN.mk (by first | rfl | omega | (simp; done) | (simp; omega)) ?_
      | refine BC.yes (by assumption) ?_
      | refine BC.no (by assumption) ?_
      | refine BC.split (fun _ => ?_) (fun _ => ?_)
      | refine SOMEN.mk (by rfl) ?_
      | refine scopeC ?_
      | refine drawC0 (hist := fun _ => Heap.empty 0) rfl ?_
      | refine drawC (hist := fun _ => Heap.empty 0) rfl ?_
      | refine NUMN.mk (by ((repeat first | apply Heap.nx_set | apply Heap.nx_new | apply Heap.nx_kill | apply Heap.nx_room); first | assumption | rfl)) ?_
      | refine LOOKN.mk (by first | exact QV.load rfl (by ((repeat first | refine Heap.room_get ?_ | refine Heap.set_skip (by omega) ?_ | refine Heap.new_skip (by ((repeat first | apply Heap.nx_set | apply Heap.nx_new | apply Heap.nx_kill | apply Heap.nx_room); first | assumption | rfl)) (by omega) ?_ | refine Exd.skip (by assumption) (by omega) ?_); first | assumption | exact Heap.set_at (by omega) | exact Heap.new_at (by ((repeat first | apply Heap.nx_set | apply Heap.nx_new | apply Heap.nx_kill | apply Heap.nx_room); first | assumption | rfl)) (by omega))) (by rfl) | exact QV.loadA rfl (by ((repeat first | refine Heap.room_get ?_ | refine Heap.set_skip (by omega) ?_ | refine Heap.new_skip (by ((repeat first | apply Heap.nx_set | apply Heap.nx_new | apply Heap.nx_kill | apply Heap.nx_room); first | assumption | rfl)) (by omega) ?_ | refine Exd.skip (by assumption) (by omega) ?_); first | assumption | exact Heap.set_at (by omega) | exact Heap.new_at (by ((repeat first | apply Heap.nx_set | apply Heap.nx_new | apply Heap.nx_kill | apply Heap.nx_room); first | assumption | rfl)) (by omega))) (by rfl) (by rfl)) ?_)))
      refine k _ _ (sl.frame fun j hj => ?_) ⟨by ((repeat first | refine Heap.room_get ?_ | refine Heap.set_skip (by omega) ?_ | refine Heap.new_skip (by ((repeat first | apply Heap.nx_set | apply Heap.nx_new | apply Heap.nx_kill | apply Heap.nx_room); first | assumption | rfl)) (by omega) ?_ | refine Exd.skip (by assumption) (by omega) ?_); first | assumption | exact Heap.set_at (by omega) | exact Heap.new_at (by ((repeat first | apply Heap.nx_set | apply Heap.nx_new | apply Heap.nx_kill | apply Heap.nx_room); first | assumption | rfl)) (by omega)), by ((repeat first | refine Heap.room_get ?_ | refine Heap.set_skip (by omega) ?_ | refine Heap.new_skip (by ((repeat first | apply Heap.nx_set | apply Heap.nx_new | apply Heap.nx_kill | apply Heap.nx_room); first | assumption | rfl)) (by omega) ?_ | refine Exd.skip (by assumption) (by omega) ?_); first | assumption | exact Heap.set_at (by omega) | exact Heap.new_at (by ((repeat first | apply Heap.nx_set | apply Heap.nx_new | apply Heap.nx_kill | apply Heap.nx_room); first | assumption | rfl)) (by omega)), ne, (by (first | omega | (simp only [Heap.next_new]; omega) | (simp only [Heap.next_set]; omega) | (simp only [Heap.next_set, Heap.next_new]; omega) | (simp only [Heap.next_set, Heap.next_new, Heap.next_kill]; omega))), (by (first | omega | (simp only [Heap.next_new]; omega) | (simp only [Heap.next_set]; omega) | (simp only [Heap.next_set, Heap.next_new]; omega) | (simp only [Heap.next_set, Heap.next_new, Heap.next_kill]; omega)))⟩ (by (repeat' first | exact Exd.refl _ | assumption | refine Exd.new ?_ | refine Exd.set ?_ (by omega) | refine Exd.kill ?_ (by omega)))
      exact Heap.get_set_ne _ _ _ _ fun ej => hj (by subst ej; exact lo.ne (by omega))

theorem tk_rep (n i : Nat) (h : i ≤ n) : tk n i = List.replicate i true ++ List.replicate (n - i) false := by
  refine List.ext_getElem (by simp [tk]; omega) fun j h1 h2 => ?_
  rw [tk_get, List.getElem_append]
  split
  · next e => simp at e; simp [e]
  · next e => simp at e; simp [e]
theorem tk_free (n i : Nat) (h : i ≤ n) : (tk n i).count false = n - i := by rw [tk_rep n i h, List.count_append]; simp [List.count_replicate]
theorem tk_taken (n i : Nat) (h : i ≤ n) : (tk n i).count true = i := by rw [tk_rep n i h, List.count_append]; simp [List.count_replicate]

theorem law_apart (f t s : Int) (_ : (Lit.int .i64 f).wf = true) (_ : (Lit.int .i64 t).wf = true) (_ : (Lit.int .i64 s).wf = true) (h : Heap) : Cal tt 3 [.int .i64 f, .int .i64 t, .int .i64 s] h fun v _ => v = .bool true := by
  refine Cal.run rfl rfl rfl rfl ?_
  (repeat' ((conv => whnf); (first
      | refine CALLN.of (awake3_cal ?_)
      | refine LTN.yes (by omega) ?_
      | refine LTN.no (by omega) ?_
      | refine LTN.mk (fun _ => ?_) (fun _ => ?_)
      | refine EQN.yes (by omega) ?_
      | refine EQN.no (by omega) ?_
      | refine EQN.mk (fun _ => ?_) (fun _ => ?_)
      | refine EQSN.yes (by first | rfl | assumption) ?_
      | refine EQSN.no (by first | decide | assumption) ?_
      | refine EQSN.mk (fun _ => ?_) (fun _ => ?_)
      | refine ARN.in (by omega) ?_
      | refine ARN.fits (by first | (apply u8_in; omega) | (apply i32_in; omega) | (apply u32_in; omega)) ?_
      | refine QUON.pos (by omega) ?_
      | refine REMN.pos (by omega) ?_
      | refine REMN.mk (by omega) ?_
      | refine GETN.mk (by ((repeat first | refine Heap.room_get ?_ | refine Heap.set_skip (by omega) ?_ | refine Heap.new_skip (by ((repeat first | apply Heap.nx_set | apply Heap.nx_new | apply Heap.nx_kill | apply Heap.nx_room); first | assumption | rfl)) (by omega) ?_ | refine Exd.skip (by assumption) (by omega) ?_); first | assumption | exact Heap.set_at (by omega) | exact Heap.new_at (by ((repeat first | apply Heap.nx_set | apply Heap.nx_new | apply Heap.nx_kill | apply Heap.nx_room); first | assumption | rfl)) (by omega))) ?_
      | refine GETM.mk (by ((repeat first | refine Heap.room_get ?_ | refine Heap.set_skip (by omega) ?_ | refine Heap.new_skip (by ((repeat first | apply Heap.nx_set | apply Heap.nx_new | apply Heap.nx_kill | apply Heap.nx_room); first | assumption | rfl)) (by omega) ?_ | refine Exd.skip (by assumption) (by omega) ?_); first | assumption | exact Heap.set_at (by omega) | exact Heap.new_at (by ((repeat first | apply Heap.nx_set | apply Heap.nx_new | apply Heap.nx_kill | apply Heap.nx_room); first | assumption | rfl)) (by omega))) ?_
      | refine NEWN.mk (by ((repeat first | apply Heap.nx_set | apply Heap.nx_new | apply Heap.nx_kill | apply Heap.nx_room); first | assumption | rfl)) ?_
      | refine SETN.mk (by ((repeat first | refine Heap.room_get ?_ | refine Heap.set_skip (by omega) ?_ | refine Heap.new_skip (by ((repeat first | apply Heap.nx_set | apply Heap.nx_new | apply Heap.nx_kill | apply Heap.nx_room); first | assumption | rfl)) (by omega) ?_ | refine Exd.skip (by assumption) (by omega) ?_); first | assumption | exact Heap.set_at (by omega) | exact Heap.new_at (by ((repeat first | apply Heap.nx_set | apply Heap.nx_new | apply Heap.nx_kill | apply Heap.nx_room); first | assumption | rfl)) (by omega))) (by rfl) (by (first | decide | (simp; done) | (simp; omega))) ?_
      | refine DOESN.mk (by first | rfl | omega | (simp; done) | (simp; omega)) ?_
      | refine BC.yes (by assumption) ?_
      | refine BC.no (by assumption) ?_
      | refine BC.split (fun _ => ?_) (fun _ => ?_)
      | refine SOMEN.mk (by rfl) ?_
      | refine scopeC ?_
      | refine drawC0 (hist := fun _ => Heap.empty 0) rfl ?_
      | refine drawC (hist := fun _ => Heap.empty 0) rfl ?_
      | refine NUMN.mk (by ((repeat first | apply Heap.nx_set | apply Heap.nx_new | apply Heap.nx_kill | apply Heap.nx_room); first | assumption | rfl)) ?_
      | refine LOOKN.mk (by first | exact QV.load rfl (by ((repeat first | refine Heap.room_get ?_ | refine Heap.set_skip (by omega) ?_ | refine Heap.new_skip (by ((repeat first | apply Heap.nx_set | apply Heap.nx_new | apply Heap.nx_kill | apply Heap.nx_room); first | assumption | rfl)) (by omega) ?_ | refine Exd.skip (by assumption) (by omega) ?_); first | assumption | exact Heap.set_at (by omega) | exact Heap.new_at (by ((repeat first | apply Heap.nx_set | apply Heap.nx_new | apply Heap.nx_kill | apply Heap.nx_room); first | assumption | rfl)) (by omega))) (by rfl) | exact QV.loadA rfl (by ((repeat first | refine Heap.room_get ?_ | refine Heap.set_skip (by omega) ?_ | refine Heap.new_skip (by ((repeat first | apply Heap.nx_set | apply Heap.nx_new | apply Heap.nx_kill | apply Heap.nx_room); first | assumption | rfl)) (by omega) ?_ | refine Exd.skip (by assumption) (by omega) ?_); first | assumption | exact Heap.set_at (by omega) | exact Heap.new_at (by ((repeat first | apply Heap.nx_set | apply Heap.nx_new | apply Heap.nx_kill | apply Heap.nx_room); first | assumption | rfl)) (by omega))) (by rfl) (by rfl)) ?_)))
  all_goals first | rfl | skip
  refine CALLN.of (new_cal (fun _ => by exfalso; omega) (fun _ _ _ _ _ h' p c _ _ _ hs => ?_))
  have hd0 : 0 ≤ (t - f) / s := Int.ediv_nonneg (by omega) (by omega)
  have hd1 : (t - f) / s ≤ t - f := Int.ediv_le_self _ (by omega)
  have hd2 : (t - f) / s * s ≤ t - f := Int.ediv_mul_le _ (by omega)
  obtain ⟨n, hn⟩ : ∃ m : Nat, (t - f) / s = (m : Int) := ⟨((t - f) / s).toNat, by omega⟩
  rw [hn, Int.toNat_natCast, tk_zero] at hs
  rw [hn] at hd0 hd1 hd2
  (repeat' ((conv => whnf); (first
      | refine LTN.yes (by omega) ?_
      | refine LTN.no (by omega) ?_
      | refine LTN.mk (fun _ => ?_) (fun _ => ?_)
      | refine EQN.yes (by omega) ?_
      | refine EQN.no (by omega) ?_
      | refine EQN.mk (fun _ => ?_) (fun _ => ?_)
      | refine EQSN.yes (by first | rfl | assumption) ?_
      | refine EQSN.no (by first | decide | assumption) ?_
      | refine EQSN.mk (fun _ => ?_) (fun _ => ?_)
      | refine ARN.in (by omega) ?_
      | refine ARN.fits (by first | (apply u8_in; omega) | (apply i32_in; omega) | (apply u32_in; omega)) ?_
      | refine QUON.pos (by omega) ?_
      | refine REMN.pos (by omega) ?_
      | refine REMN.mk (by omega) ?_
      | refine GETN.mk (by ((repeat first | refine Heap.room_get ?_ | refine Heap.set_skip (by omega) ?_ | refine Heap.new_skip (by ((repeat first | apply Heap.nx_set | apply Heap.nx_new | apply Heap.nx_kill | apply Heap.nx_room); first | assumption | rfl)) (by omega) ?_ | refine Exd.skip (by assumption) (by omega) ?_); first | assumption | exact Heap.set_at (by omega) | exact Heap.new_at (by ((repeat first | apply Heap.nx_set | apply Heap.nx_new | apply Heap.nx_kill | apply Heap.nx_room); first | assumption | rfl)) (by omega))) ?_
      | refine GETM.mk (by ((repeat first | refine Heap.room_get ?_ | refine Heap.set_skip (by omega) ?_ | refine Heap.new_skip (by ((repeat first | apply Heap.nx_set | apply Heap.nx_new | apply Heap.nx_kill | apply Heap.nx_room); first | assumption | rfl)) (by omega) ?_ | refine Exd.skip (by assumption) (by omega) ?_); first | assumption | exact Heap.set_at (by omega) | exact Heap.new_at (by ((repeat first | apply Heap.nx_set | apply Heap.nx_new | apply Heap.nx_kill | apply Heap.nx_room); first | assumption | rfl)) (by omega))) ?_
      | refine NEWN.mk (by ((repeat first | apply Heap.nx_set | apply Heap.nx_new | apply Heap.nx_kill | apply Heap.nx_room); first | assumption | rfl)) ?_
      | refine SETN.mk (by ((repeat first | refine Heap.room_get ?_ | refine Heap.set_skip (by omega) ?_ | refine Heap.new_skip (by ((repeat first | apply Heap.nx_set | apply Heap.nx_new | apply Heap.nx_kill | apply Heap.nx_room); first | assumption | rfl)) (by omega) ?_ | refine Exd.skip (by assumption) (by omega) ?_); first | assumption | exact Heap.set_at (by omega) | exact Heap.new_at (by ((repeat first | apply Heap.nx_set | apply Heap.nx_new | apply Heap.nx_kill | apply Heap.nx_room); first | assumption | rfl)) (by omega))) (by rfl) (by (first | decide | (simp; done) | (simp; omega))) ?_
      | refine DOESN.mk (by first | rfl | omega | (simp; done) | (simp; omega)) ?_
      | refine BC.yes (by assumption) ?_
      | refine BC.no (by assumption) ?_
      | refine BC.split (fun _ => ?_) (fun _ => ?_)
      | refine SOMEN.mk (by rfl) ?_
      | refine scopeC ?_
      | refine drawC0 (hist := fun _ => Heap.empty 0) rfl ?_
      | refine drawC (hist := fun _ => Heap.empty 0) rfl ?_
      | refine NUMN.mk (by ((repeat first | apply Heap.nx_set | apply Heap.nx_new | apply Heap.nx_kill | apply Heap.nx_room); first | assumption | rfl)) ?_
      | refine LOOKN.mk (by first | exact QV.load rfl (by ((repeat first | refine Heap.room_get ?_ | refine Heap.set_skip (by omega) ?_ | refine Heap.new_skip (by ((repeat first | apply Heap.nx_set | apply Heap.nx_new | apply Heap.nx_kill | apply Heap.nx_room); first | assumption | rfl)) (by omega) ?_ | refine Exd.skip (by assumption) (by omega) ?_); first | assumption | exact Heap.set_at (by omega) | exact Heap.new_at (by ((repeat first | apply Heap.nx_set | apply Heap.nx_new | apply Heap.nx_kill | apply Heap.nx_room); first | assumption | rfl)) (by omega))) (by rfl) | exact QV.loadA rfl (by ((repeat first | refine Heap.room_get ?_ | refine Heap.set_skip (by omega) ?_ | refine Heap.new_skip (by ((repeat first | apply Heap.nx_set | apply Heap.nx_new | apply Heap.nx_kill | apply Heap.nx_room); first | assumption | rfl)) (by omega) ?_ | refine Exd.skip (by assumption) (by omega) ?_); first | assumption | exact Heap.set_at (by omega) | exact Heap.new_at (by ((repeat first | apply Heap.nx_set | apply Heap.nx_new | apply Heap.nx_kill | apply Heap.nx_room); first | assumption | rfl)) (by omega))) (by rfl) (by rfl)) ?_)))
  refine loopC (fun i : Nat => [(0, .int .i64 f), (1, .int .i64 t), (2, .int .i64 s), (7, .ptr p 0), (9, .int .i64 ((t - f) / s)), (10, .int .i64 i)]) (fun i h => IsSegs h p c f s (tk n i) ∧ i ≤ n) (fun i => n - i) 0 ⟨rfl, rfl, rfl, rfl, rfl, rfl, trivial⟩ ⟨hs, Nat.zero_le _⟩ ?_
  rintro i ρ h ⟨hs, hle⟩
  have rg : InRange f s (tk n i).length := ⟨by omega, by omega, by omega, by omega, by rw [tk_len]; omega⟩
  have mm := rg.mul (i := i) (by rw [tk_len]; exact hle)
  have up : i < n → (i : Int) * s + s ≤ n * s := by
    intro h1
    have := Int.mul_le_mul_of_nonneg_right (a := (i : Int) + 1) (b := n) (c := s) (by omega) (by omega)
    rw [Int.add_mul, Int.one_mul] at this; exact this
  (repeat' ((conv => whnf); (first
      | refine LTN.yes (by omega) ?_
      | refine LTN.no (by omega) ?_
      | refine LTN.mk (fun _ => ?_) (fun _ => ?_)
      | refine EQN.yes (by omega) ?_
      | refine EQN.no (by omega) ?_
      | refine EQN.mk (fun _ => ?_) (fun _ => ?_)
      | refine EQSN.yes (by first | rfl | assumption) ?_
      | refine EQSN.no (by first | decide | assumption) ?_
      | refine EQSN.mk (fun _ => ?_) (fun _ => ?_)
      | refine ARN.in (by omega) ?_
      | refine ARN.fits (by first | (apply u8_in; omega) | (apply i32_in; omega) | (apply u32_in; omega)) ?_
      | refine QUON.pos (by omega) ?_
      | refine REMN.pos (by omega) ?_
      | refine REMN.mk (by omega) ?_
      | refine GETN.mk (by ((repeat first | refine Heap.room_get ?_ | refine Heap.set_skip (by omega) ?_ | refine Heap.new_skip (by ((repeat first | apply Heap.nx_set | apply Heap.nx_new | apply Heap.nx_kill | apply Heap.nx_room); first | assumption | rfl)) (by omega) ?_ | refine Exd.skip (by assumption) (by omega) ?_); first | assumption | exact Heap.set_at (by omega) | exact Heap.new_at (by ((repeat first | apply Heap.nx_set | apply Heap.nx_new | apply Heap.nx_kill | apply Heap.nx_room); first | assumption | rfl)) (by omega))) ?_
      | refine GETM.mk (by ((repeat first | refine Heap.room_get ?_ | refine Heap.set_skip (by omega) ?_ | refine Heap.new_skip (by ((repeat first | apply Heap.nx_set | apply Heap.nx_new | apply Heap.nx_kill | apply Heap.nx_room); first | assumption | rfl)) (by omega) ?_ | refine Exd.skip (by assumption) (by omega) ?_); first | assumption | exact Heap.set_at (by omega) | exact Heap.new_at (by ((repeat first | apply Heap.nx_set | apply Heap.nx_new | apply Heap.nx_kill | apply Heap.nx_room); first | assumption | rfl)) (by omega))) ?_
      | refine NEWN.mk (by ((repeat first | apply Heap.nx_set | apply Heap.nx_new | apply Heap.nx_kill | apply Heap.nx_room); first | assumption | rfl)) ?_
      | refine SETN.mk (by ((repeat first | refine Heap.room_get ?_ | refine Heap.set_skip (by omega) ?_ | refine Heap.new_skip (by ((repeat first | apply Heap.nx_set | apply Heap.nx_new | apply Heap.nx_kill | apply Heap.nx_room); first | assumption | rfl)) (by omega) ?_ | refine Exd.skip (by assumption) (by omega) ?_); first | assumption | exact Heap.set_at (by omega) | exact Heap.new_at (by ((repeat first | apply Heap.nx_set | apply Heap.nx_new | apply Heap.nx_kill | apply Heap.nx_room); first | assumption | rfl)) (by omega))) (by rfl) (by (first | decide | (simp; done) | (simp; omega))) ?_
      | refine DOESN.mk (by first | rfl | omega | (simp; done) | (simp; omega)) ?_
      | refine BC.yes (by assumption) ?_
      | refine BC.no (by assumption) ?_
      | refine BC.split (fun _ => ?_) (fun _ => ?_)
      | refine SOMEN.mk (by rfl) ?_
      | refine scopeC ?_
      | refine drawC0 (hist := fun _ => Heap.empty 0) rfl ?_
      | refine drawC (hist := fun _ => Heap.empty 0) rfl ?_
      | refine NUMN.mk (by ((repeat first | apply Heap.nx_set | apply Heap.nx_new | apply Heap.nx_kill | apply Heap.nx_room); first | assumption | rfl)) ?_
      | refine LOOKN.mk (by first | exact QV.load rfl (by ((repeat first | refine Heap.room_get ?_ | refine Heap.set_skip (by omega) ?_ | refine Heap.new_skip (by ((repeat first | apply Heap.nx_set | apply Heap.nx_new | apply Heap.nx_kill | apply Heap.nx_room); first | assumption | rfl)) (by omega) ?_ | refine Exd.skip (by assumption) (by omega) ?_); first | assumption | exact Heap.set_at (by omega) | exact Heap.new_at (by ((repeat first | apply Heap.nx_set | apply Heap.nx_new | apply Heap.nx_kill | apply Heap.nx_room); first | assumption | rfl)) (by omega))) (by rfl) | exact QV.loadA rfl (by ((repeat first | refine Heap.room_get ?_ | refine Heap.set_skip (by omega) ?_ | refine Heap.new_skip (by ((repeat first | apply Heap.nx_set | apply Heap.nx_new | apply Heap.nx_kill | apply Heap.nx_room); first | assumption | rfl)) (by omega) ?_ | refine Exd.skip (by assumption) (by omega) ?_); first | assumption | exact Heap.set_at (by omega) | exact Heap.new_at (by ((repeat first | apply Heap.nx_set | apply Heap.nx_new | apply Heap.nx_kill | apply Heap.nx_room); first | assumption | rfl)) (by omega))) (by rfl) (by rfl)) ?_)))
  · refine CALLN.of (take_cal hs rg (fun j h' e hs' u => ?_) (fun h' e _ _ => ?_))
    rotate_left
    · rw [tk_first n i (by omega)] at e; simp at e
    rw [tk_first n i (by omega)] at e
    obtain rfl : i = j := by simpa using e
    rw [tk_set] at hs'
    (repeat' ((conv => whnf); (first
      | refine LTN.yes (by omega) ?_
      | refine LTN.no (by omega) ?_
      | refine LTN.mk (fun _ => ?_) (fun _ => ?_)
      | refine EQN.yes (by omega) ?_
      | refine EQN.no (by omega) ?_
      | refine EQN.mk (fun _ => ?_) (fun _ => ?_)
      | refine EQSN.yes (by first | rfl | assumption) ?_
      | refine EQSN.no (by first | decide | assumption) ?_
      | refine EQSN.mk (fun _ => ?_) (fun _ => ?_)
      | refine ARN.in (by omega) ?_
      | refine ARN.fits (by first | (apply u8_in; omega) | (apply i32_in; omega) | (apply u32_in; omega)) ?_
      | refine QUON.pos (by omega) ?_
      | refine REMN.pos (by omega) ?_
      | refine REMN.mk (by omega) ?_
      | refine GETN.mk (by ((repeat first | refine Heap.room_get ?_ | refine Heap.set_skip (by omega) ?_ | refine Heap.new_skip (by ((repeat first | apply Heap.nx_set | apply Heap.nx_new | apply Heap.nx_kill | apply Heap.nx_room); first | assumption | rfl)) (by omega) ?_ | refine Exd.skip (by assumption) (by omega) ?_); first | assumption | exact Heap.set_at (by omega) | exact Heap.new_at (by ((repeat first | apply Heap.nx_set | apply Heap.nx_new | apply Heap.nx_kill | apply Heap.nx_room); first | assumption | rfl)) (by omega))) ?_
      | refine GETM.mk (by ((repeat first | refine Heap.room_get ?_ | refine Heap.set_skip (by omega) ?_ | refine Heap.new_skip (by ((repeat first | apply Heap.nx_set | apply Heap.nx_new | apply Heap.nx_kill | apply Heap.nx_room); first | assumption | rfl)) (by omega) ?_ | refine Exd.skip (by assumption) (by omega) ?_); first | assumption | exact Heap.set_at (by omega) | exact Heap.new_at (by ((repeat first | apply Heap.nx_set | apply Heap.nx_new | apply Heap.nx_kill | apply Heap.nx_room); first | assumption | rfl)) (by omega))) ?_
      | refine NEWN.mk (by ((repeat first | apply Heap.nx_set | apply Heap.nx_new | apply Heap.nx_kill | apply Heap.nx_room); first | assumption | rfl)) ?_
      | refine SETN.mk (by ((repeat first | refine Heap.room_get ?_ | refine Heap.set_skip (by omega) ?_ | refine Heap.new_skip (by ((repeat first | apply Heap.nx_set | apply Heap.nx_new | apply Heap.nx_kill | apply Heap.nx_room); first | assumption | rfl)) (by omega) ?_ | refine Exd.skip (by assumption) (by omega) ?_); first | assumption | exact Heap.set_at (by omega) | exact Heap.new_at (by ((repeat first | apply Heap.nx_set | apply Heap.nx_new | apply Heap.nx_kill | apply Heap.nx_room); first | assumption | rfl)) (by omega))) (by rfl) (by (first | decide | (simp; done) | (simp; omega))) ?_
      | refine DOESN.mk (by first | rfl | omega | (simp; done) | (simp; omega)) ?_
      | refine BC.yes (by assumption) ?_
      | refine BC.no (by assumption) ?_
      | refine BC.split (fun _ => ?_) (fun _ => ?_)
      | refine SOMEN.mk (by rfl) ?_
      | refine scopeC ?_
      | refine drawC0 (hist := fun _ => Heap.empty 0) rfl ?_
      | refine drawC (hist := fun _ => Heap.empty 0) rfl ?_
      | refine NUMN.mk (by ((repeat first | apply Heap.nx_set | apply Heap.nx_new | apply Heap.nx_kill | apply Heap.nx_room); first | assumption | rfl)) ?_
      | refine LOOKN.mk (by first | exact QV.load rfl (by ((repeat first | refine Heap.room_get ?_ | refine Heap.set_skip (by omega) ?_ | refine Heap.new_skip (by ((repeat first | apply Heap.nx_set | apply Heap.nx_new | apply Heap.nx_kill | apply Heap.nx_room); first | assumption | rfl)) (by omega) ?_ | refine Exd.skip (by assumption) (by omega) ?_); first | assumption | exact Heap.set_at (by omega) | exact Heap.new_at (by ((repeat first | apply Heap.nx_set | apply Heap.nx_new | apply Heap.nx_kill | apply Heap.nx_room); first | assumption | rfl)) (by omega))) (by rfl) | exact QV.loadA rfl (by ((repeat first | refine Heap.room_get ?_ | refine Heap.set_skip (by omega) ?_ | refine Heap.new_skip (by ((repeat first | apply Heap.nx_set | apply Heap.nx_new | apply Heap.nx_kill | apply Heap.nx_room); first | assumption | rfl)) (by omega) ?_ | refine Exd.skip (by assumption) (by omega) ?_); first | assumption | exact Heap.set_at (by omega) | exact Heap.new_at (by ((repeat first | apply Heap.nx_set | apply Heap.nx_new | apply Heap.nx_kill | apply Heap.nx_room); first | assumption | rfl)) (by omega))) (by rfl) (by rfl)) ?_)))
    refine CALLN.of (free_cal hs' (by rw [tk_len]; omega) fun h'' hs'' _ => ?_)
    rw [tk_free n (i + 1) (by omega)]
    (repeat' ((conv => whnf); (first
      | refine LTN.yes (by omega) ?_
      | refine LTN.no (by omega) ?_
      | refine LTN.mk (fun _ => ?_) (fun _ => ?_)
      | refine EQN.yes (by omega) ?_
      | refine EQN.no (by omega) ?_
      | refine EQN.mk (fun _ => ?_) (fun _ => ?_)
      | refine EQSN.yes (by first | rfl | assumption) ?_
      | refine EQSN.no (by first | decide | assumption) ?_
      | refine EQSN.mk (fun _ => ?_) (fun _ => ?_)
      | refine ARN.in (by omega) ?_
      | refine ARN.fits (by first | (apply u8_in; omega) | (apply i32_in; omega) | (apply u32_in; omega)) ?_
      | refine QUON.pos (by omega) ?_
      | refine REMN.pos (by omega) ?_
      | refine REMN.mk (by omega) ?_
      | refine GETN.mk (by ((repeat first | refine Heap.room_get ?_ | refine Heap.set_skip (by omega) ?_ | refine Heap.new_skip (by ((repeat first | apply Heap.nx_set | apply Heap.nx_new | apply Heap.nx_kill | apply Heap.nx_room); first | assumption | rfl)) (by omega) ?_ | refine Exd.skip (by assumption) (by omega) ?_); first | assumption | exact Heap.set_at (by omega) | exact Heap.new_at (by ((repeat first | apply Heap.nx_set | apply Heap.nx_new | apply Heap.nx_kill | apply Heap.nx_room); first | assumption | rfl)) (by omega))) ?_
      | refine GETM.mk (by ((repeat first | refine Heap.room_get ?_ | refine Heap.set_skip (by omega) ?_ | refine Heap.new_skip (by ((repeat first | apply Heap.nx_set | apply Heap.nx_new | apply Heap.nx_kill | apply Heap.nx_room); first | assumption | rfl)) (by omega) ?_ | refine Exd.skip (by assumption) (by omega) ?_); first | assumption | exact Heap.set_at (by omega) | exact Heap.new_at (by ((repeat first | apply Heap.nx_set | apply Heap.nx_new | apply Heap.nx_kill | apply Heap.nx_room); first | assumption | rfl)) (by omega))) ?_
      | refine NEWN.mk (by ((repeat first | apply Heap.nx_set | apply Heap.nx_new | apply Heap.nx_kill | apply Heap.nx_room); first | assumption | rfl)) ?_
      | refine SETN.mk (by ((repeat first | refine Heap.room_get ?_ | refine Heap.set_skip (by omega) ?_ | refine Heap.new_skip (by ((repeat first | apply Heap.nx_set | apply Heap.nx_new | apply Heap.nx_kill | apply Heap.nx_room); first | assumption | rfl)) (by omega) ?_ | refine Exd.skip (by assumption) (by omega) ?_); first | assumption | exact Heap.set_at (by omega) | exact Heap.new_at (by ((repeat first | apply Heap.nx_set | apply Heap.nx_new | apply Heap.nx_kill | apply Heap.nx_room); first | assumption | rfl)) (by omega))) (by rfl) (by (first | decide | (simp; done) | (simp; omega))) ?_
      | refine DOESN.mk (by first | rfl | omega | (simp; done) | (simp; omega)) ?_
      | refine BC.yes (by assumption) ?_
      | refine BC.no (by assumption) ?_
      | refine BC.split (fun _ => ?_) (fun _ => ?_)
      | refine SOMEN.mk (by rfl) ?_
      | refine scopeC ?_
      | refine drawC0 (hist := fun _ => Heap.empty 0) rfl ?_
      | refine drawC (hist := fun _ => Heap.empty 0) rfl ?_
      | refine NUMN.mk (by ((repeat first | apply Heap.nx_set | apply Heap.nx_new | apply Heap.nx_kill | apply Heap.nx_room); first | assumption | rfl)) ?_
      | refine LOOKN.mk (by first | exact QV.load rfl (by ((repeat first | refine Heap.room_get ?_ | refine Heap.set_skip (by omega) ?_ | refine Heap.new_skip (by ((repeat first | apply Heap.nx_set | apply Heap.nx_new | apply Heap.nx_kill | apply Heap.nx_room); first | assumption | rfl)) (by omega) ?_ | refine Exd.skip (by assumption) (by omega) ?_); first | assumption | exact Heap.set_at (by omega) | exact Heap.new_at (by ((repeat first | apply Heap.nx_set | apply Heap.nx_new | apply Heap.nx_kill | apply Heap.nx_room); first | assumption | rfl)) (by omega))) (by rfl) | exact QV.loadA rfl (by ((repeat first | refine Heap.room_get ?_ | refine Heap.set_skip (by omega) ?_ | refine Heap.new_skip (by ((repeat first | apply Heap.nx_set | apply Heap.nx_new | apply Heap.nx_kill | apply Heap.nx_room); first | assumption | rfl)) (by omega) ?_ | refine Exd.skip (by assumption) (by omega) ?_); first | assumption | exact Heap.set_at (by omega) | exact Heap.new_at (by ((repeat first | apply Heap.nx_set | apply Heap.nx_new | apply Heap.nx_kill | apply Heap.nx_room); first | assumption | rfl)) (by omega))) (by rfl) (by rfl)) ?_)))
    exact ⟨rfl, i + 1, ⟨rfl, rfl, rfl, rfl, rfl, rfl, trivial⟩, ⟨hs'', by omega⟩, by omega⟩
  · obtain rfl : i = n := by omega
    refine CALLN.of (take_cal hs rg (fun j h' e hs' u => ?_) (fun h' e hs' _ => ?_))
    · rw [tk_none] at e; simp at e
    (repeat' ((conv => whnf); (first
      | refine LTN.yes (by omega) ?_
      | refine LTN.no (by omega) ?_
      | refine LTN.mk (fun _ => ?_) (fun _ => ?_)
      | refine EQN.yes (by omega) ?_
      | refine EQN.no (by omega) ?_
      | refine EQN.mk (fun _ => ?_) (fun _ => ?_)
      | refine EQSN.yes (by first | rfl | assumption) ?_
      | refine EQSN.no (by first | decide | assumption) ?_
      | refine EQSN.mk (fun _ => ?_) (fun _ => ?_)
      | refine ARN.in (by omega) ?_
      | refine ARN.fits (by first | (apply u8_in; omega) | (apply i32_in; omega) | (apply u32_in; omega)) ?_
      | refine QUON.pos (by omega) ?_
      | refine REMN.pos (by omega) ?_
      | refine REMN.mk (by omega) ?_
      | refine GETN.mk (by ((repeat first | refine Heap.room_get ?_ | refine Heap.set_skip (by omega) ?_ | refine Heap.new_skip (by ((repeat first | apply Heap.nx_set | apply Heap.nx_new | apply Heap.nx_kill | apply Heap.nx_room); first | assumption | rfl)) (by omega) ?_ | refine Exd.skip (by assumption) (by omega) ?_); first | assumption | exact Heap.set_at (by omega) | exact Heap.new_at (by ((repeat first | apply Heap.nx_set | apply Heap.nx_new | apply Heap.nx_kill | apply Heap.nx_room); first | assumption | rfl)) (by omega))) ?_
      | refine GETM.mk (by ((repeat first | refine Heap.room_get ?_ | refine Heap.set_skip (by omega) ?_ | refine Heap.new_skip (by ((repeat first | apply Heap.nx_set | apply Heap.nx_new | apply Heap.nx_kill | apply Heap.nx_room); first | assumption | rfl)) (by omega) ?_ | refine Exd.skip (by assumption) (by omega) ?_); first | assumption | exact Heap.set_at (by omega) | exact Heap.new_at (by ((repeat first | apply Heap.nx_set | apply Heap.nx_new | apply Heap.nx_kill | apply Heap.nx_room); first | assumption | rfl)) (by omega))) ?_
      | refine NEWN.mk (by ((repeat first | apply Heap.nx_set | apply Heap.nx_new | apply Heap.nx_kill | apply Heap.nx_room); first | assumption | rfl)) ?_
      | refine SETN.mk (by ((repeat first | refine Heap.room_get ?_ | refine Heap.set_skip (by omega) ?_ | refine Heap.new_skip (by ((repeat first | apply Heap.nx_set | apply Heap.nx_new | apply Heap.nx_kill | apply Heap.nx_room); first | assumption | rfl)) (by omega) ?_ | refine Exd.skip (by assumption) (by omega) ?_); first | assumption | exact Heap.set_at (by omega) | exact Heap.new_at (by ((repeat first | apply Heap.nx_set | apply Heap.nx_new | apply Heap.nx_kill | apply Heap.nx_room); first | assumption | rfl)) (by omega))) (by rfl) (by (first | decide | (simp; done) | (simp; omega))) ?_
      | refine DOESN.mk (by first | rfl | omega | (simp; done) | (simp; omega)) ?_
      | refine BC.yes (by assumption) ?_
      | refine BC.no (by assumption) ?_
      | refine BC.split (fun _ => ?_) (fun _ => ?_)
      | refine SOMEN.mk (by rfl) ?_
      | refine scopeC ?_
      | refine drawC0 (hist := fun _ => Heap.empty 0) rfl ?_
      | refine drawC (hist := fun _ => Heap.empty 0) rfl ?_
      | refine NUMN.mk (by ((repeat first | apply Heap.nx_set | apply Heap.nx_new | apply Heap.nx_kill | apply Heap.nx_room); first | assumption | rfl)) ?_
      | refine LOOKN.mk (by first | exact QV.load rfl (by ((repeat first | refine Heap.room_get ?_ | refine Heap.set_skip (by omega) ?_ | refine Heap.new_skip (by ((repeat first | apply Heap.nx_set | apply Heap.nx_new | apply Heap.nx_kill | apply Heap.nx_room); first | assumption | rfl)) (by omega) ?_ | refine Exd.skip (by assumption) (by omega) ?_); first | assumption | exact Heap.set_at (by omega) | exact Heap.new_at (by ((repeat first | apply Heap.nx_set | apply Heap.nx_new | apply Heap.nx_kill | apply Heap.nx_room); first | assumption | rfl)) (by omega))) (by rfl) | exact QV.loadA rfl (by ((repeat first | refine Heap.room_get ?_ | refine Heap.set_skip (by omega) ?_ | refine Heap.new_skip (by ((repeat first | apply Heap.nx_set | apply Heap.nx_new | apply Heap.nx_kill | apply Heap.nx_room); first | assumption | rfl)) (by omega) ?_ | refine Exd.skip (by assumption) (by omega) ?_); first | assumption | exact Heap.set_at (by omega) | exact Heap.new_at (by ((repeat first | apply Heap.nx_set | apply Heap.nx_new | apply Heap.nx_kill | apply Heap.nx_room); first | assumption | rfl)) (by omega))) (by rfl) (by rfl)) ?_)))
    refine CALLN.of (taken_cal hs' rg fun h'' v sl _ _ => ?_)
    rw [tk_taken i i (Nat.le_refl i)] at sl
    rcases sl with ⟨rfl, rfl, _⟩ | ⟨bb, wr, opn, rfl, e1, e2, e3⟩
    all_goals (repeat' ((conv => whnf); (first
      | refine CALLN.of (awake3_cal ?_)
      | refine LTN.yes (by omega) ?_
      | refine LTN.no (by omega) ?_
      | refine LTN.mk (fun _ => ?_) (fun _ => ?_)
      | refine EQN.yes (by omega) ?_
      | refine EQN.no (by omega) ?_
      | refine EQN.mk (fun _ => ?_) (fun _ => ?_)
      | refine EQSN.yes (by first | rfl | assumption) ?_
      | refine EQSN.no (by first | decide | assumption) ?_
      | refine EQSN.mk (fun _ => ?_) (fun _ => ?_)
      | refine ARN.in (by omega) ?_
      | refine ARN.fits (by first | (apply u8_in; omega) | (apply i32_in; omega) | (apply u32_in; omega)) ?_
      | refine QUON.pos (by omega) ?_
      | refine REMN.pos (by omega) ?_
      | refine REMN.mk (by omega) ?_
      | refine GETN.mk (by ((repeat first | refine Heap.room_get ?_ | refine Heap.set_skip (by omega) ?_ | refine Heap.new_skip (by ((repeat first | apply Heap.nx_set | apply Heap.nx_new | apply Heap.nx_kill | apply Heap.nx_room); first | assumption | rfl)) (by omega) ?_ | refine Exd.skip (by assumption) (by omega) ?_); first | assumption | exact Heap.set_at (by omega) | exact Heap.new_at (by ((repeat first | apply Heap.nx_set | apply Heap.nx_new | apply Heap.nx_kill | apply Heap.nx_room); first | assumption | rfl)) (by omega))) ?_
      | refine GETM.mk (by ((repeat first | refine Heap.room_get ?_ | refine Heap.set_skip (by omega) ?_ | refine Heap.new_skip (by ((repeat first | apply Heap.nx_set | apply Heap.nx_new | apply Heap.nx_kill | apply Heap.nx_room); first | assumption | rfl)) (by omega) ?_ | refine Exd.skip (by assumption) (by omega) ?_); first | assumption | exact Heap.set_at (by omega) | exact Heap.new_at (by ((repeat first | apply Heap.nx_set | apply Heap.nx_new | apply Heap.nx_kill | apply Heap.nx_room); first | assumption | rfl)) (by omega))) ?_
      | refine NEWN.mk (by ((repeat first | apply Heap.nx_set | apply Heap.nx_new | apply Heap.nx_kill | apply Heap.nx_room); first | assumption | rfl)) ?_
      | refine SETN.mk (by ((repeat first | refine Heap.room_get ?_ | refine Heap.set_skip (by omega) ?_ | refine Heap.new_skip (by ((repeat first | apply Heap.nx_set | apply Heap.nx_new | apply Heap.nx_kill | apply Heap.nx_room); first | assumption | rfl)) (by omega) ?_ | refine Exd.skip (by assumption) (by omega) ?_); first | assumption | exact Heap.set_at (by omega) | exact Heap.new_at (by ((repeat first | apply Heap.nx_set | apply Heap.nx_new | apply Heap.nx_kill | apply Heap.nx_room); first | assumption | rfl)) (by omega))) (by rfl) (by (first | decide | (simp; done) | (simp; omega))) ?_
      | refine DOESN.mk (by first | rfl | omega | (simp; done) | (simp; omega)) ?_
      | refine BC.yes (by assumption) ?_
      | refine BC.no (by assumption) ?_
      | refine BC.split (fun _ => ?_) (fun _ => ?_)
      | refine SOMEN.mk (by rfl) ?_
      | refine scopeC ?_
      | refine drawC0 (hist := fun _ => Heap.empty 0) rfl ?_
      | refine drawC (hist := fun _ => Heap.empty 0) rfl ?_
      | refine NUMN.mk (by ((repeat first | apply Heap.nx_set | apply Heap.nx_new | apply Heap.nx_kill | apply Heap.nx_room); first | assumption | rfl)) ?_
      | refine LOOKN.mk (by first | exact QV.load rfl (by ((repeat first | refine Heap.room_get ?_ | refine Heap.set_skip (by omega) ?_ | refine Heap.new_skip (by ((repeat first | apply Heap.nx_set | apply Heap.nx_new | apply Heap.nx_kill | apply Heap.nx_room); first | assumption | rfl)) (by omega) ?_ | refine Exd.skip (by assumption) (by omega) ?_); first | assumption | exact Heap.set_at (by omega) | exact Heap.new_at (by ((repeat first | apply Heap.nx_set | apply Heap.nx_new | apply Heap.nx_kill | apply Heap.nx_room); first | assumption | rfl)) (by omega))) (by rfl) | exact QV.loadA rfl (by ((repeat first | refine Heap.room_get ?_ | refine Heap.set_skip (by omega) ?_ | refine Heap.new_skip (by ((repeat first | apply Heap.nx_set | apply Heap.nx_new | apply Heap.nx_kill | apply Heap.nx_room); first | assumption | rfl)) (by omega) ?_ | refine Exd.skip (by assumption) (by omega) ?_); first | assumption | exact Heap.set_at (by omega) | exact Heap.new_at (by ((repeat first | apply Heap.nx_set | apply Heap.nx_new | apply Heap.nx_kill | apply Heap.nx_room); first | assumption | rfl)) (by omega))) (by rfl) (by rfl)) ?_)))
    all_goals rfl
end Go.Proofs.Ythcmiceheohpjaa.Cm
