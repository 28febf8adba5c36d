/-
  The clean machine, and what the law's functions do in it: part StuckT of this claim's own texts. No conditions.
-/
import Derived.Test.YtncmoaggkdlkhaaGreatCmK
namespace Go.Proofs.YtncmoaggkdlkhaaGreat.Cm
open Go.RowKit Go.IntWalk
attribute [local irreducible] Heap.set Heap.new Heap.kill Heap.get Heap.room Cal WP
set_option maxHeartbeats 2000000 in
theorem allocStuck_cal {h : Heap} {n : Int} {vl vm : CVal} {L M : List Int} (rl : RIn h vl L) (rm : RIn h vm M) (bm : ∀ x ∈ M, -9223372036854775808 ≤ x ∧ x ≤ 9223372036854775807) : Cal tt 8 [.int .i64 n, vl, vm] h fun v _ => v = .bool true := by
 refine Cal.run rfl rfl rfl rfl ?_
 by_cases hc : 1 ≤ n ∧ n ≤ 8 ∧ L.length ≤ 40 ∧ M.length ≤ 60
 rotate_left
 ·rcases (show n < 1 ∨ (1 ≤ n ∧ 8 < n) ∨ (1 ≤ n ∧ n ≤ 8 ∧ 40 < L.length) ∨ (1 ≤ n ∧ n ≤ 8 ∧ L.length ≤ 40 ∧ 60 < M.length) by omega) with hc | hc | hc | hc
  all_goals
   (repeat' first | refine go ?_ | (refine CALLN.of (awake_cal ?_)) | refine idxS_ fun _ _ _ => ?_ | refine sp (fun _ => ?_) fun _ => ?_ | fail)
   rfl
 (repeat' first | refine go ?_ | refine idxS_ fun _ _ _ => ?_ | refine sp (fun _ => ?_) fun _ => ?_ | fail)
 refine CALLN.of (made_cal (by omega) rl (by omega) fun p q h1 Z F S TB LS t2 cc x1 z1 => ?_)
 have I0 : LawI h false Z F h1 p q S := ⟨TB, LS, t2, cc, x1, z1⟩
 clear TB LS t2 cc x1 z1
 (repeat' first | refine go ?_ | refine idxS_ fun _ _ _ => ?_ | refine sp (fun _ => ?_) fun _ => ?_ | fail)
 refine loopC (fun y : Nat × (Nat → Prop) × (Nat → Prop) × AS => [(0, .int .i64 n), (2, vm), (7, .ptr p 0), (8, .ptr q 0), (9, .int .i64 y.1)]) (fun y h' => LawI h false y.2.1 y.2.2.1 h' p q y.2.2.2 ∧ y.1 ≤ M.length) (fun y => M.length - y.1) (0, Z, F, S) ⟨rfl, rfl, rfl, rfl, rfl, trivial⟩ ⟨I0, Nat.zero_le _⟩ ?_
 rintro ⟨i, Z, F, S⟩ ρ h' ⟨I, hi⟩
 simp only at I hi ⊢
 have rm' := rm.exd I.x
 by_cases hil : i < M.length
 rotate_left
 ·(repeat' first | refine go ?_ | (refine CALLN.of (awake_cal ?_)) | refine idxS_ fun _ _ _ => ?_ | refine sp (fun _ => ?_) fun _ => ?_ | fail)
  rfl
 have ei : ∀ R : List Int, R.getD (i : Int).toNat 0 = R.getD i 0 := fun R => by rw [Int.toNat_natCast]
 have bx : -9223372036854775808 ≤ M.getD i 0 ∧ M.getD i 0 ≤ 9223372036854775807 := by
  rw [List.getD_eq_getElem?_getD, List.getElem?_eq_getElem hil]
  exact bm _ (List.getElem_mem hil)
 (repeat' first | refine go ?_ | ((refine RIn.idxS rm' (by omega) fun b o gB => ?_; rw [ei] at gB)) | refine idxS_ fun _ _ _ => ?_ | refine sp (fun _ => ?_) fun _ => ?_ | fail)
 refine CALLN.of (turn_cal bx (by omega) fun kind pid a b N h2 x2 k0 kp lN lN' g2 => ?_)
 have x2 : Exd h' h2 := x2
 have I2 := I.exd x2
 have lN : h'.next ≤ N := lN
 (repeat' first | refine go ?_ | refine idxS_ fun _ _ _ => ?_ | refine sp (fun _ => ?_) fun _ => ?_ | fail)
 refine CALLN.of (plays_cal (kind := kind) (pid := pid) I2.T.two (rsl2 g2 lN' (I.fresh lN)) (Nat.le_of_ble_eq_true rfl) kp fun h3 Z3 F3 g3 _ B3 => ?_)
 have I3 := I2.grow g3 (B3 k0) (I2.L.play k0) (playS_T k0)
 generalize playS S kind pid [a, b] = S3 at *
 clear B3 g3 I2 x2 g2 rm' I
 have G := I3.L.G
 have lH := G.hl
 have p32 := G.p32
 have lA := G.a
 have t6 := G.t6
 obtain ⟨_, _, _, _, _, _, _, _, P⟩ := I3.pv
 (repeat' first | refine go ?_ | refine idxS_ fun _ _ _ => ?_ | refine sp (fun _ => ?_) fun _ => ?_ | fail)
 refine CALLN.of (helds_cal P G I3.t fun vh vc va h4 x4 rh _ ra => ?_)
 have x4 : Exd h3 h4 := x4
 have oh := rh.one
 have oa := ra.one
 (repeat' first | refine go ?_ | refine idxS_ fun _ _ _ => ?_ | refine sp (fun _ => ?_) fun _ => ?_ | fail)
 refine CALLN.of (availB_cal (P.exd x4) G fun vA h5 x5 rA _ => ?_)
 have x35 : Exd h3 h5 := x4.trans x5
 have x5 : Exd h4 h5 := x5
 (repeat' first | refine go ?_ | refine idxS_ fun _ _ _ => ?_ | refine sp (fun _ => ?_) fun _ => ?_ | fail)
 refine CALLN.of (hstuck_cal rA ((rh.exd x5).rrows G.lenH) ((ra.exd x5).rrows G.lenAsks) (by omega) fun vs h6 x6 rs => ?_)
 have x36 : Exd h3 h6 := x35.trans x6
 have rs : RIn h6 vs (nats (stuckU S3.A S3.H (asksS S3))) := rs
 have os := rs.one
 clear x5 x6 x4 rA rh ra
 (repeat' first | refine go ?_ | refine idxS_ fun _ _ _ => ?_ | refine sp (fun _ => ?_) fun _ => ?_ | fail)
 refine CALLN.of (pidsB_cal (P.exd x36) G fun vp h7 x7 rp _ => ?_)
 have x7 : Exd h6 h7 := x7
 have rp : RIn h7 vp S3.P := rp
 have op := rp.one
 have x37 := x36.trans x7
 (repeat' first | refine go ?_ | refine idxS_ fun _ _ _ => ?_ | refine sp (fun _ => ?_) fun _ => ?_ | fail)
 refine CALLN.of (stuckB_cal (P.exd x37) G fun vt h8 x8 rt => ?_)
 have x8 : Exd h7 h8 := x8
 have rt : RIn h8 vt (stuckS S3) := rt
 have ot := rt.one
 have rp8 := rp.exd x8
 have rs8 := (rs.exd x7).exd x8
 have x38 := x37.trans x8
 clear x7 x8 x36 x37 x35 rs rp
 have I8 := I3.exd x38
 have slt := stuckU_lt (A := S3.A) (H := S3.H) (Q := asksS S3)
 have sl := stuckU_len (A := S3.A) (H := S3.H) (Q := asksS S3)
 have est : stuckS S3 = (stuckU S3.A S3.H (asksS S3)).map fun i => S3.P.getD i 0 := rfl
 have rt' := rt
 rw [est] at rt
 generalize stuckU S3.A S3.H (asksS S3) = U at *
 have nl := nats_length U
 have ul : (U.map fun i => S3.P.getD i 0).length = U.length := List.length_map ..
 (repeat' first | refine go ?_ | refine idxS_ fun _ _ _ => ?_ | refine sp (fun _ => ?_) fun _ => ?_ | fail)
 refine loopC (fun j : Nat => [(0, .int .i64 n), (2, vm), (7, .ptr p 0), (8, .ptr q 0), (9, .int .i64 i), (13, vs), (14, vp), (15, vt), (16, .int .i64 j)]) (fun j h' => h' = h8 ∧ j ≤ U.length) (fun j => U.length - j) 0 ⟨rfl, rfl, rfl, rfl, rfl, rfl, rfl, rfl, rfl, trivial⟩ ⟨rfl, Nat.zero_le _⟩ ?_
 rintro j ρ h9 ⟨rfl, hj⟩
 by_cases hjl : j < U.length
 rotate_left
 ·(repeat' first | refine go ?_ | refine idxS_ fun _ _ _ => ?_ | refine sp (fun _ => ?_) fun _ => ?_ | fail)
  obtain ⟨_, _, _, _, _, _, RV8⟩ := I8.T.R
  refine CALLN.of (stuckA_cal RV8 G fun vr h10 x10 rr => ?_)
  have x10 : Exd h9 h10 := x10
  have or := rr.one
  (repeat' first | refine go ?_ | refine idxS_ fun _ _ _ => ?_ | refine sp (fun _ => ?_) fun _ => ?_ | fail)
  refine CALLN.of (ints_cal (rt'.exd x10) rr (stuckS_len G) ?_)
  rw [decide_eq_true rfl]
  (repeat' first | refine go ?_ | refine idxS_ fun _ _ _ => ?_ | refine sp (fun _ => ?_) fun _ => ?_ | fail)
  exact ⟨rfl, (i + 1, Z3, F3, S3), ⟨rfl, rfl, rfl, rfl, rfl, trivial⟩, ⟨I8.exd x10, hil⟩, by simp only; omega⟩
 have hu : U[j] < S3.H.length := slt _ (List.getElem_mem hjl)
 have gj : (nats U).getD (j : Int).toNat 0 = ((U[j] : Nat) : Int) := by rw [Int.toNat_natCast, nats, List.getD_eq_getElem?_getD, List.getElem?_map, List.getElem?_eq_getElem hjl]; rfl
 have gp : ∀ L : List Int, L.getD ((U[j] : Nat) : Int).toNat 0 = L.getD U[j] 0 := fun L => by rw [Int.toNat_natCast]
 have gt : (U.map fun i => S3.P.getD i 0).getD (j : Int).toNat 0 = S3.P.getD U[j] 0 := by rw [Int.toNat_natCast, List.getD_eq_getElem?_getD, List.getElem?_map, List.getElem?_eq_getElem hjl]; rfl
 (repeat' first | refine go ?_ | ((refine RIn.idxS rs8 (by omega) fun b o gA => ?_; rw [gj] at gA)) | ((refine RIn.idxS rt (by omega) fun b o gB => ?_; rw [gt] at gB)) | ((refine RIn.idxS rp8 (by omega) fun b o gC => ?_; rw [gp] at gC)) | refine idxS_ fun _ _ _ => ?_ | refine sp (fun _ => ?_) fun _ => ?_ | fail)
 exact ⟨rfl, j + 1, ⟨rfl, rfl, rfl, rfl, rfl, rfl, rfl, rfl, rfl, trivial⟩, ⟨rfl, hjl⟩, by omega⟩
end Go.Proofs.YtncmoaggkdlkhaaGreat.Cm
