/-
  The clean machine, and what the law's functions do in it: part SumsT of this claim's own texts. No conditions.
-/
import Derived.Test.YtncmoaggkdlkhaaGreatCmK
namespace Go.Proofs.YtncmoaggkdlkhaaGreat.Cm
open Go.RowKit Go.IntWalk
attribute [local irreducible] Heap.set Heap.new Heap.kill Heap.get Heap.room Cal WP
theorem sumJ_app {A B : List (List Int)} {c : Nat} : sumJ (A ++ B) c = sumJ A c + sumJ B c := by
 simp only [sumJ, List.map_append, List.sum_append]
theorem sumJ_take {H : List (List Int)} {c : Nat} (h : ∀ R ∈ H, 0 ≤ atU R c) (j : Nat) : 0 ≤ sumJ (H.take j) c ∧ sumJ (H.take j) c ≤ sumJ H c := by
 have h1 := sumJ_nonneg (j := c) (H := H.take j) fun R hR => h R (List.mem_of_mem_take hR)
 have h2 := sumJ_nonneg (j := c) (H := H.drop j) fun R hR => h R (List.mem_of_mem_drop hR)
 have h3 : sumJ H c = sumJ (H.take j) c + sumJ (H.drop j) c := by rw [← sumJ_app, List.take_append_drop]
 omega
def sumL (S : AS) (j : Nat) : List Int := [atU S.A 0 + sumJ (S.H.take j) 0, atU S.A 1 + sumJ (S.H.take j) 1]
theorem list2 {R : List Int} (h : R.length = 2) : R = [atU R 0, atU R 1] := by
 match R, h with
 | [_, _], _ => rfl
theorem sumL_all {S : AS} (G : GoodS S) (t : S.T.length = 2) : sumL S S.P.length = S.T := by
 rw [list2 t, sumL, List.take_of_length_le (by rw [G.hl]; exact Nat.le_refl _), G.sum 0 (by omega), G.sum 1 (by omega)]
set_option maxHeartbeats 2000000 in
theorem allocSums_cal {h : Heap} {cl : Bool} {n : Int} {vl vm : CVal} {L M : List Int} (rl : RIn h vl L) (rm : RIn h vm M) (bm : ∀ x ∈ M, -9223372036854775808 ≤ x ∧ x ≤ 9223372036854775807) : Cal tt 5 [.bool cl, .int .i64 n, vl, vm] h fun v _ => v = .bool true := by
 refine Cal.run rfl rfl rfl rfl ?_
 by_cases hc : 1 ≤ n ∧ n ≤ 8 ∧ L.length ≤ 40 ∧ M.length ≤ 80
 rotate_left
 ·rcases (show n < 1 ∨ (1 ≤ n ∧ 8 < n) ∨ (1 ≤ n ∧ n ≤ 8 ∧ 40 < L.length) ∨ (1 ≤ n ∧ n ≤ 8 ∧ L.length ≤ 40 ∧ 80 < M.length) by omega) with hc | hc | hc | hc
  all_goals
   (repeat' first | refine go ?_ | (refine CALLN.of (awake_cal ?_)) | refine idxS_ fun _ _ _ => ?_ | refine sp (fun _ => ?_) fun _ => ?_ | fail)
   rfl
 (repeat' first | refine go ?_ | refine idxS_ fun _ _ _ => ?_ | refine sp (fun _ => ?_) fun _ => ?_ | fail)
 refine CALLN.of (made_cal (by omega) rl (by omega) fun p q h1 Z F S TB LS t2 cc x1 z1 => ?_)
 have I0 : LawI h cl Z F h1 p q S := ⟨TB, LS, t2, cc, x1, z1⟩
 clear TB LS t2 cc x1 z1
 (repeat' first | refine go ?_ | refine idxS_ fun _ _ _ => ?_ | refine sp (fun _ => ?_) fun _ => ?_ | fail)
 refine loopC (fun y : Nat × (Nat → Prop) × (Nat → Prop) × AS => [(0, .bool cl), (1, .int .i64 n), (3, vm), (9, .ptr p 0), (10, .ptr q 0), (11, .int .i64 y.1)]) (fun y h' => LawI h cl y.2.1 y.2.2.1 h' p q y.2.2.2 ∧ y.1 ≤ M.length) (fun y => M.length - y.1) (0, Z, F, S) ⟨rfl, rfl, rfl, rfl, rfl, rfl, trivial⟩ ⟨I0, Nat.zero_le _⟩ ?_
 rintro ⟨i, Z, F, S⟩ ρ h' ⟨I, hi⟩
 simp only at I hi ⊢
 have rm' := rm.exd I.x
 by_cases hil : i < M.length
 rotate_left
 ·(repeat' first | refine go ?_ | (refine CALLN.of (awake_cal ?_)) | refine idxS_ fun _ _ _ => ?_ | refine sp (fun _ => ?_) fun _ => ?_ | fail)
  rfl
 have ei : ∀ R : List Int, R.getD (i : Int).toNat 0 = R.getD i 0 := fun R => by rw [Int.toNat_natCast]
 have bx : -9223372036854775808 ≤ M.getD i 0 ∧ M.getD i 0 ≤ 9223372036854775807 := by
  rw [List.getD_eq_getElem?_getD, List.getElem?_eq_getElem hil]
  exact bm _ (List.getElem_mem hil)
 (repeat' first | refine go ?_ | ((refine RIn.idxS rm' (by omega) fun b o gB => ?_; rw [ei] at gB)) | refine idxS_ fun _ _ _ => ?_ | refine sp (fun _ => ?_) fun _ => ?_ | fail)
 refine CALLN.of (turn_cal bx (by omega) fun kind pid a b N h2 x2 k0 kp lN lN' g2 => ?_)
 have x2 : Exd h' h2 := x2
 have I2 := I.exd x2
 have lN : h'.next ≤ N := lN
 (repeat' first | refine go ?_ | refine idxS_ fun _ _ _ => ?_ | refine sp (fun _ => ?_) fun _ => ?_ | fail)
 refine CALLN.of (plays_cal (kind := kind) (pid := pid) I2.T.two (rsl2 g2 lN' (I.fresh lN)) (Nat.le_of_ble_eq_true rfl) kp fun h3 Z3 F3 g3 _ B3 => ?_)
 have I3 := I2.grow g3 (B3 k0) (I2.L.play k0) (playS_T k0)
 generalize playS S kind pid [a, b] = S3 at *
 clear B3 g3 I2 x2 g2 rm' I
 have G := I3.L.G
 have lH := G.hl
 have p32 := G.p32
 have lA := G.a
 have t6 := G.t6
 obtain ⟨_, _, _, _, _, _, _, _, P⟩ := I3.pv
 (repeat' first | refine go ?_ | refine idxS_ fun _ _ _ => ?_ | refine sp (fun _ => ?_) fun _ => ?_ | fail)
 refine CALLN.of (availB_cal P G fun vA h4 x4 rA _ => ?_)
 have x4 : Exd h3 h4 := x4
 have rA : RIn h4 vA S3.A := rA
 have oA := rA.one
 have t2 := I3.t
 (repeat' first | refine go ?_ | refine idxS_ fun _ _ _ => ?_ | refine sp (fun _ => ?_) fun _ => ?_ | fail)
 refine CALLN.of (pidsB_cal (P.exd x4) G fun vp h5 x5 rp _ => ?_)
 have x5 : Exd h4 h5 := x5
 have rp : RIn h5 vp S3.P := rp
 have op := rp.one
 have x35 := x4.trans x5
 have rs0 : RIn h5 vA (sumL S3 0) := by
  have e : sumL S3 0 = S3.A := by rw [list2 (R := S3.A) (by omega), sumL, List.take_zero]; simp [sumJ, atU]
  rw [e]; exact rA.exd x5
 clear x4 x5 rA
 (repeat' first | refine go ?_ | refine idxS_ fun _ _ _ => ?_ | refine sp (fun _ => ?_) fun _ => ?_ | fail)
 refine loopC (fun y : Nat × CVal => [(0, .bool cl), (1, .int .i64 n), (3, vm), (9, .ptr p 0), (10, .ptr q 0), (11, .int .i64 i), (12, y.2), (13, vp), (14, .int .i64 y.1)]) (fun y h' => Exd h5 h' ∧ y.1 ≤ S3.P.length ∧ RIn h' y.2 (sumL S3 y.1)) (fun y => S3.P.length - y.1) (0, vA) ⟨rfl, rfl, rfl, rfl, rfl, rfl, rfl, rfl, rfl, trivial⟩ ⟨Exd.refl _, Nat.zero_le _, rs0⟩ ?_
 rintro ⟨j, vs⟩ ρ h6 ⟨x6, hj, rs⟩
 simp only at hj rs ⊢
 have os := rs.one
 have x36 := x35.trans x6
 have rp6 := rp.exd x6
 have I6 := I3.exd x36
 obtain ⟨_, _, _, _, _, _, R6⟩ := I6.T.R
 by_cases hjl : j < S3.P.length
 rotate_left
 ·obtain rfl : j = S3.P.length := by omega
  rw [sumL_all G t2] at rs
  have g6 := R6.g
  have rT := R6.T.rin
  (repeat' first | refine go ?_ | refine idxS_ fun _ _ _ => ?_ | refine sp (fun _ => ?_) fun _ => ?_ | fail)
  refine CALLN.of (ints_cal rs rT (by omega) ?_)
  rw [decide_eq_true rfl]
  (repeat' first | refine go ?_ | refine idxS_ fun _ _ _ => ?_ | refine sp (fun _ => ?_) fun _ => ?_ | fail)
  exact ⟨rfl, (i + 1, Z3, F3, S3), ⟨rfl, rfl, rfl, rfl, rfl, rfl, trivial⟩, ⟨I6, hil⟩, by simp only; omega⟩
 have ej : ∀ R : List Int, R.getD (j : Int).toNat 0 = R.getD j 0 := fun R => by rw [Int.toNat_natCast]
 obtain ⟨bp, op', ap, hip⟩ := rp6.atE hjl
 (repeat' first | refine go ?_ | (refine hip _ ?_) | refine idxS_ fun _ _ _ => ?_ | refine sp (fun _ => ?_) fun _ => ?_ | fail)
 refine CALLN.of (heldB_cal (P.exd x36) G fun v7 h7 x7 r7 _ => ?_)
 have x7 : Exd h6 h7 := x7
 have r7 : GSl (fun _ => False) intE h7 v7 (rowOf S3.H S3 (S3.P.getD j 0)) := r7
 rw [rowOf_at G hjl] at r7
 have o7 := r7.one
 have x37 := x36.trans x7
 have ap7 := ap.exd x7
 (repeat' first | refine go ?_ | (refine hip _ ?_) | refine idxS_ fun _ _ _ => ?_ | refine sp (fun _ => ?_) fun _ => ?_ | fail)
 refine CALLN.of (claimB_cal (P.exd x37) G fun v8 h8 x8 r8 => ?_)
 have x8 : Exd h7 h8 := x8
 have r8 : RIn h8 v8 (rowOf S3.C S3 (S3.P.getD j 0)) := (r8 (fun _ => False) fun _ f => f.elim).rin
 rw [rowOf_at G hjl] at r8
 have o8 := r8.one
 have rh : RIn h8 v7 (rowU S3.H j) := r7.ints.exd x8
 have rs8 : RIn h8 vs (sumL S3 j) := (rs.exd x7).exd x8
 have x68 := x7.trans x8
 have x38 := x37.trans x8
 clear r7 x7 x8 x37 ap7 rp6 rs
 have kH : j < S3.H.length := by omega
 have kC : j < S3.C.length := by rw [G.cl]; exact hjl
 have lRH := (G.h _ (rowU_mem kH)).1
 have lRC := (rowOk_split (G.c _ (rowU_mem kC))).1
 have lS : (sumL S3 j).length = 2 := rfl
 have b0 := G.atH (rowU_mem kH) 0
 have b1 := G.atH (rowU_mem kH) 1
 have s0 := sumJ_take (H := S3.H) (c := 0) (fun R hR => (G.h R hR).2 0) j
 have s1 := sumJ_take (H := S3.H) (c := 1) (fun R hR => (G.h R hR).2 1) j
 have m0 := G.sum 0 (by omega)
 have m1 := G.sum 1 (by omega)
 have a0 := G.a0 0
 have a1 := G.a0 1
 have u0 := mayU_atU G.tm 0
 have u1 := mayU_atU G.tm 1
 have z0 : ∀ R : List Int, R.getD (0 : Int).toNat 0 = atU R 0 := fun _ => rfl
 have z1 : ∀ R : List Int, R.getD (1 : Int).toNat 0 = atU R 1 := fun _ => rfl
 have q0 : atU (sumL S3 j) 0 = atU S3.A 0 + sumJ (S3.H.take j) 0 := rfl
 have q1 : atU (sumL S3 j) 1 = atU S3.A 1 + sumJ (S3.H.take j) 1 := rfl
 have hcl : cl = true → atU (rowU S3.H j) 0 ≤ atU (rowU S3.C j) 0 ∧ atU (rowU S3.H j) 1 ≤ atU (rowU S3.C j) 1 := fun h => by
  have hf := (I3.L.c (I3.c.trans h)).1.f _ (T3_at G hjl)
  exact ⟨fits_le hf 0 (by simp only; omega), fits_le hf 1 (by simp only; omega)⟩
 obtain ⟨N8, hN8⟩ : ∃ N, h8.next = N := ⟨_, rfl⟩
 have e1 : sumL S3 (j + 1) = [atU (sumL S3 j) 0 + atU (rowU S3.H j) 0, atU (sumL S3 j) 1 + atU (rowU S3.H j) 1] := by
  rw [sumL, sumL, take_rowU kH, sumJ_app, sumJ_app]
  simp only [sumJ, List.map_cons, List.map_nil, List.sum_cons, List.sum_nil, Int.add_zero]
  show _ = [atU S3.A 0 + _ + atU (rowU S3.H j) 0, atU S3.A 1 + _ + atU (rowU S3.H j) 1]
  simp only [Int.add_assoc]
 cases cl
 all_goals
  first | have hcl := hcl rfl | skip
  (repeat' first | refine go ?_ | ((refine RIn.idxS rh (by omega) fun b o gA => ?_; first | rw [z0] at gA | rw [z1] at gA)) | ((refine RIn.idxS r8 (by omega) fun b o gB => ?_; first | rw [z0] at gB | rw [z1] at gB)) | ((refine RIn.idxS rs8 (by omega) fun b o gC => ?_; first | rw [z0, q0] at gC | rw [z1, q1] at gC)) | refine idxS_ fun _ _ _ => ?_ | refine sp (fun _ => ?_) fun _ => ?_ | fail)
  refine ⟨rfl, (j + 1, .slice N8 0 2 2), ⟨rfl, rfl, rfl, rfl, rfl, rfl, rfl, rfl, rfl, trivial⟩, ⟨x6.trans (x68.trans (by exact exd_)), hjl, ?_⟩, by simp only; omega⟩
  simp only
  rw [e1, q0, q1]
  exact rin2 (by exact get_) (by exact lt_)
end Go.Proofs.YtncmoaggkdlkhaaGreat.Cm
