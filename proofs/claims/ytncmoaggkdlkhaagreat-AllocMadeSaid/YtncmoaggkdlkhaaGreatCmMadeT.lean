/-
  The clean machine, and what the law's functions do in it: part MadeT of this claim's own texts. No conditions.
-/
import Derived.Test.YtncmoaggkdlkhaaGreatCmL
namespace Go.Proofs.YtncmoaggkdlkhaaGreat.Cm
open Go.RowKit Go.IntWalk
attribute [local irreducible] Heap.set Heap.new Heap.kill Heap.get Heap.room Cal WP
set_option maxHeartbeats 1000000 in
theorem allocMade_cal {h : Heap} {cl : Bool} {n : Int} {vl vm : CVal} {L M : List Int} (rl : RIn h vl L) (rm : RIn h vm M) (bm : ∀ x ∈ M, -9223372036854775808 ≤ x ∧ x ≤ 9223372036854775807) : Cal tt 4 [.bool cl, .int .i64 n, vl, vm] h fun v _ => v = .bool true := by
 refine Cal.run rfl rfl rfl rfl ?_
 by_cases hc : 1 ≤ n ∧ n ≤ 8 ∧ L.length ≤ 40 ∧ M.length ≤ 80
 rotate_left
 ·rcases (show n < 1 ∨ (1 ≤ n ∧ 8 < n) ∨ (1 ≤ n ∧ n ≤ 8 ∧ 40 < L.length) ∨ (1 ≤ n ∧ n ≤ 8 ∧ L.length ≤ 40 ∧ 80 < M.length) by omega) with hc | hc | hc | hc
  all_goals
   (repeat' first | refine go ?_ | (refine CALLN.of (awake_cal ?_)) | refine idxS_ fun _ _ _ => ?_ | refine sp (fun _ => ?_) fun _ => ?_ | fail)
   rfl
 (repeat' first | refine go ?_ | refine idxS_ fun _ _ _ => ?_ | refine sp (fun _ => ?_) fun _ => ?_ | fail)
 refine CALLN.of (made_cal (by omega) rl (by omega) fun p q h1 Z F S TB LS t2 cc x1 z1 => ?_)
 have I0 : LawI h cl Z F h1 p q S := ⟨TB, LS, t2, cc, x1, z1⟩
 clear TB LS t2 cc x1 z1
 (repeat' first | refine go ?_ | refine idxS_ fun _ _ _ => ?_ | refine sp (fun _ => ?_) fun _ => ?_ | fail)
 refine loopC (fun y : Nat × (Nat → Prop) × (Nat → Prop) × AS => [(1, .int .i64 n), (3, vm), (9, .ptr p 0), (10, .ptr q 0), (11, .int .i64 y.1)]) (fun y h' => LawI h cl y.2.1 y.2.2.1 h' p q y.2.2.2 ∧ y.1 ≤ M.length) (fun y => M.length - y.1) (0, Z, F, S) ⟨rfl, rfl, rfl, rfl, rfl, trivial⟩ ⟨I0, Nat.zero_le _⟩ ?_
 rintro ⟨i, Z, F, S⟩ ρ h' ⟨I, hi⟩
 simp only at I hi ⊢
 have rm' := rm.exd I.x
 by_cases hil : i < M.length
 rotate_left
 ·(repeat' first | refine go ?_ | (refine CALLN.of (awake_cal ?_)) | refine idxS_ fun _ _ _ => ?_ | refine sp (fun _ => ?_) fun _ => ?_ | fail)
  rfl
 have ei : ∀ R : List Int, R.getD (i : Int).toNat 0 = R.getD i 0 := fun R => by rw [Int.toNat_natCast]
 have bx : -9223372036854775808 ≤ M.getD i 0 ∧ M.getD i 0 ≤ 9223372036854775807 := by
  rw [List.getD_eq_getElem?_getD, List.getElem?_eq_getElem hil]
  exact bm _ (List.getElem_mem hil)
 (repeat' first | refine go ?_ | ((refine RIn.idxS rm' (by omega) fun b o gB => ?_; rw [ei] at gB)) | refine idxS_ fun _ _ _ => ?_ | refine sp (fun _ => ?_) fun _ => ?_ | fail)
 refine CALLN.of (turn_cal bx (by omega) fun kind pid a b N h2 x2 k0 kp lN lN' g2 => ?_)
 have x2 : Exd h' h2 := x2
 have I2 := I.exd x2
 have lN : h'.next ≤ N := lN
 (repeat' first | refine go ?_ | refine idxS_ fun _ _ _ => ?_ | refine sp (fun _ => ?_) fun _ => ?_ | fail)
 refine CALLN.of (plays_cal (kind := kind) (pid := pid) I2.T.two (rsl2 g2 lN' (I.fresh lN)) (Nat.le_of_ble_eq_true rfl) kp fun h3 Z3 F3 g3 _ B3 => ?_)
 have I3 := I2.grow g3 (B3 k0) (I2.L.play k0) (playS_T k0)
 (repeat' first | refine go ?_ | refine idxS_ fun _ _ _ => ?_ | refine sp (fun _ => ?_) fun _ => ?_ | fail)
 refine CALLN.of (same_cal I3.T.two fun h4 Z4 F4 g4 T4 => ?_)
 have I4 := I3.grow g4 T4 I3.L ⟨rfl, rfl⟩
 (repeat' first | refine go ?_ | refine idxS_ fun _ _ _ => ?_ | refine sp (fun _ => ?_) fun _ => ?_ | fail)
 exact ⟨rfl, (i + 1, Z4, F4, _), ⟨rfl, rfl, rfl, rfl, rfl, trivial⟩, ⟨I4, hil⟩, by simp only; omega⟩
end Go.Proofs.YtncmoaggkdlkhaaGreat.Cm
