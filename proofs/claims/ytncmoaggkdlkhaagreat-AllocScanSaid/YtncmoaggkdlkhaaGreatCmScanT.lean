/-
  The clean machine, and what the law's functions do in it: part ScanT of this claim's own texts. No conditions.
-/
import Derived.Test.YtncmoaggkdlkhaaGreatCmK
namespace Go.Proofs.YtncmoaggkdlkhaaGreat.Cm
open Go.RowKit Go.IntWalk
attribute [local irreducible] Heap.set Heap.new Heap.kill Heap.get Heap.room Cal WP
theorem placeR_cal {v : CVal} {P : List Int} {x : Int} {kk : Nat} {h : Heap} {Q : CVal → Heap → Prop} (r : RIn h v P) (hk : posI P x = some kk) (hl : P.length ≤ 1000) (k : Q (.tuple [.int .i64 kk, .bool true]) h) : Cal tt 28 [v, .int .i64 x] h Q := by
 refine Cal.run rfl rfl rfl rfl ?_
 (repeat' first | refine go ?_ | refine idxS_ fun _ _ _ => ?_ | refine sp (fun _ => ?_) fun _ => ?_ | fail)
 refine loopC (fun j : Nat => [(0, v), (1, .int .i64 x), (6, .int .i64 j)]) (fun j h' => h' = h ∧ j ≤ P.length ∧ ∀ p, p < j → P.getD p 0 ≠ x) (fun j => P.length - j) 0 ⟨rfl, rfl, rfl, trivial⟩ ⟨rfl, Nat.zero_le _, fun p hp => absurd hp (Nat.not_lt_zero _)⟩ ?_
 rintro j ρ h' ⟨rfl, hj, hno⟩
 have gj : ∀ R : List Int, R.getD (j : Int).toNat 0 = R.getD j 0 := fun R => by rw [Int.toNat_natCast]
 by_cases hjl : j < P.length
 rotate_left
 ·rw [posI_none fun p hp => hno p (by omega)] at hk
  simp at hk
 by_cases hx : P.getD j 0 = x
 ·rw [posI_some hjl hx hno, Option.some.injEq] at hk
  subst hk
  (repeat' first | refine go ?_ | ((refine RIn.idxS r (by omega) fun b o g => ?_; rw [gj] at g)) | refine idxS_ fun _ _ _ => ?_ | refine sp (fun _ => ?_) fun _ => ?_ | fail)
  exact k
 ·(repeat' first | refine go ?_ | ((refine RIn.idxS r (by omega) fun b o g => ?_; rw [gj] at g)) | refine idxS_ fun _ _ _ => ?_ | refine sp (fun _ => ?_) fun _ => ?_ | fail)
  exact ⟨rfl, j + 1, ⟨rfl, rfl, rfl, trivial⟩, ⟨rfl, by omega, fun p hp => by
   rcases Nat.lt_or_ge p j with h1 | h1
   ·exact hno p h1
   ·obtain rfl : p = j := by omega
    exact hx⟩, by omega⟩
theorem less_fits {A B : List Int} (h : lessOk A B = true) : fitsU B A = true := by
 simp only [lessOk, Bool.and_eq_true, decide_eq_true_eq] at h
 refine fitsU_iff.2 ⟨h.1.1.1.symm, fun j hj => ?_⟩
 have := mayU_atU h.2 j
 rw [atU_sub (by omega)] at this
 omega
set_option maxHeartbeats 2000000 in
theorem allocScan_cal {h : Heap} {cl : Bool} {n : Int} {vl vm : CVal} {L M : List Int} (rl : RIn h vl L) (rm : RIn h vm M) (bm : ∀ x ∈ M, -9223372036854775808 ≤ x ∧ x ≤ 9223372036854775807) : Cal tt 7 [.bool cl, .int .i64 n, vl, vm] h fun v _ => v = .bool true := by
 refine Cal.run rfl rfl rfl rfl ?_
 by_cases hc : 1 ≤ n ∧ n ≤ 8 ∧ L.length ≤ 40 ∧ M.length ≤ 80
 rotate_left
 ·rcases (show n < 1 ∨ (1 ≤ n ∧ 8 < n) ∨ (1 ≤ n ∧ n ≤ 8 ∧ 40 < L.length) ∨ (1 ≤ n ∧ n ≤ 8 ∧ L.length ≤ 40 ∧ 80 < M.length) by omega) with hc | hc | hc | hc
  all_goals
   (repeat' first | refine go ?_ | (refine CALLN.of (awake_cal ?_)) | refine idxS_ fun _ _ _ => ?_ | refine sp (fun _ => ?_) fun _ => ?_ | fail)
   rfl
 (repeat' first | refine go ?_ | refine idxS_ fun _ _ _ => ?_ | refine sp (fun _ => ?_) fun _ => ?_ | fail)
 refine CALLN.of (made_cal (by omega) rl (by omega) fun p q h1 Z F S TB LS t2 cc x1 z1 => ?_)
 have I0 : LawI h cl Z F h1 p q S := ⟨TB, LS, t2, cc, x1, z1⟩
 clear TB LS t2 cc x1 z1
 (repeat' first | refine go ?_ | refine idxS_ fun _ _ _ => ?_ | refine sp (fun _ => ?_) fun _ => ?_ | fail)
 refine loopC (fun y : Nat × (Nat → Prop) × (Nat → Prop) × AS => [(0, .bool cl), (1, .int .i64 n), (3, vm), (9, .ptr p 0), (10, .ptr q 0), (11, .int .i64 y.1)]) (fun y h' => LawI h cl y.2.1 y.2.2.1 h' p q y.2.2.2 ∧ y.1 ≤ M.length) (fun y => M.length - y.1) (0, Z, F, S) ⟨rfl, rfl, rfl, rfl, rfl, rfl, trivial⟩ ⟨I0, Nat.zero_le _⟩ ?_
 rintro ⟨i, Z, F, S⟩ ρ h' ⟨I, hi⟩
 simp only at I hi ⊢
 have rm' := rm.exd I.x
 by_cases hil : i < M.length
 rotate_left
 ·(repeat' first | refine go ?_ | (refine CALLN.of (awake_cal ?_)) | refine idxS_ fun _ _ _ => ?_ | refine sp (fun _ => ?_) fun _ => ?_ | fail)
  rfl
 have ei : ∀ R : List Int, R.getD (i : Int).toNat 0 = R.getD i 0 := fun R => by rw [Int.toNat_natCast]
 have bx : -9223372036854775808 ≤ M.getD i 0 ∧ M.getD i 0 ≤ 9223372036854775807 := by
  rw [List.getD_eq_getElem?_getD, List.getElem?_eq_getElem hil]
  exact bm _ (List.getElem_mem hil)
 (repeat' first | refine go ?_ | ((refine RIn.idxS rm' (by omega) fun b o gB => ?_; rw [ei] at gB)) | refine idxS_ fun _ _ _ => ?_ | refine sp (fun _ => ?_) fun _ => ?_ | fail)
 refine CALLN.of (turn_cal bx (by omega) fun kind pid a b N h2 x2 k0 kp lN lN' g2 => ?_)
 have x2 : Exd h' h2 := x2
 have I2 := I.exd x2
 have lN : h'.next ≤ N := lN
 (repeat' first | refine go ?_ | refine idxS_ fun _ _ _ => ?_ | refine sp (fun _ => ?_) fun _ => ?_ | fail)
 refine CALLN.of (plays_cal (kind := kind) (pid := pid) I2.T.two (rsl2 g2 lN' (I.fresh lN)) (Nat.le_of_ble_eq_true rfl) kp fun h3 Z3 F3 g3 _ B3 => ?_)
 have I3 := I2.grow g3 (B3 k0) (I2.L.play k0) (playS_T k0)
 generalize playS S kind pid [a, b] = S3 at *
 clear B3 g3 I2 x2 g2 rm' I
 have G := I3.L.G
 have lH := G.hl
 have p32 := G.p32
 have lA := G.a
 have t6 := G.t6
 obtain ⟨_, _, _, _, _, _, _, _, P⟩ := I3.pv
 (repeat' first | refine go ?_ | refine idxS_ fun _ _ _ => ?_ | refine sp (fun _ => ?_) fun _ => ?_ | fail)
 refine CALLN.of (pendingB_cal P G fun vq h4 x4 rq => ?_)
 have x4 : Exd h3 h4 := x4
 have rq : RSl (fun _ => False) askE h4 vq S3.W := rq
 have oq := rq.one
 have wl := G.wl
 (repeat' first | refine go ?_ | refine idxS_ fun _ _ _ => ?_ | refine sp (fun _ => ?_) fun _ => ?_ | fail)
 refine CALLN.of (helds_cal (P.exd x4) G I3.t fun vh vc va h5 x5 rh rc _ => ?_)
 have x5 : Exd h4 h5 := x5
 have oh := rh.one
 have oc := rc.one
 have x35 := x4.trans x5
 have rq5 := rq.exd x5
 (repeat' first | refine go ?_ | refine idxS_ fun _ _ _ => ?_ | refine sp (fun _ => ?_) fun _ => ?_ | fail)
 refine CALLN.of (pidsB_cal (P.exd x35) G fun vp h6 x6 rp _ => ?_)
 have x6 : Exd h5 h6 := x6
 have rp : RIn h6 vp S3.P := rp
 have op := rp.one
 have x36 := x35.trans x6
 have rq6 := rq5.exd x6
 have rh6 := rh.exd x6
 have rc6 := rc.exd x6
 clear x4 x5 x6 x35 rq rq5 rh rc
 (repeat' first | refine go ?_ | refine idxS_ fun _ _ _ => ?_ | refine sp (fun _ => ?_) fun _ => ?_ | fail)
 refine loopC (fun j : Nat => [(0, .bool cl), (1, .int .i64 n), (3, vm), (9, .ptr p 0), (10, .ptr q 0), (11, .int .i64 i), (12, vq), (13, vh), (14, vc), (16, vp), (17, .int .i64 j)]) (fun j h' => Exd h6 h' ∧ j ≤ S3.W.length) (fun j => S3.W.length - j) 0 ⟨rfl, rfl, rfl, rfl, rfl, rfl, rfl, rfl, rfl, rfl, rfl, trivial⟩ ⟨Exd.refl _, Nat.zero_le _⟩ ?_
 rintro j ρ h7 ⟨x7, hj⟩
 have x37 := x36.trans x7
 have rq7 := rq6.exd x7
 by_cases hjl : j < S3.W.length
 rotate_left
 ·(repeat' first | refine go ?_ | (refine rq7.lenS ?_) | refine idxS_ fun _ _ _ => ?_ | refine sp (fun _ => ?_) fun _ => ?_ | fail)
  exact ⟨rfl, (i + 1, Z3, F3, S3), ⟨rfl, rfl, rfl, rfl, rfl, rfl, trivial⟩, ⟨I3.exd x37, hil⟩, by simp only; omega⟩
 obtain ⟨a, ea⟩ : ∃ a, S3.W[j]? = some a := ⟨_, List.getElem?_eq_getElem hjl⟩
 obtain ⟨pid, us⟩ := a
 have hng := I3.L.n j _ ea
 obtain ⟨hxP, hxu⟩ := G.w _ (List.mem_of_getElem? ea)
 simp only at hxP hxu
 obtain ⟨kk, ek, k1, k2, k3⟩ := G.pos hxP
 obtain ⟨q1, q2⟩ := rowOk_split hxu
 have lRH := (G.h _ (rowU_mem k2)).1
 have t2 := I3.t
 obtain ⟨b1, o1, w1, rr1, a1, hi1⟩ := rq7.pairE ea
 have a11 : At1 h7 b1 o1 (.int .i64 pid) := a1.at (j := 0) rfl
 have a12 : At1 h7 b1 (o1 + 1) w1 := a1.at (j := 1) rfl
 have ow1 := rr1.one
 (repeat' first | refine go ?_ | (refine rq7.lenS ?_) | refine idxS_ fun _ _ _ => ?_ | refine sp (fun _ => ?_) fun _ => ?_ | fail)
 refine CALLN.of (availB_cal (P.exd x37) G fun vA h8 x8 rA _ => ?_)
 have x8 : Exd h7 h8 := x8
 have rA : RIn h8 vA S3.A := rA
 have oA := rA.one
 have a12' := a12.exd x8
 have x38 := x37.trans x8
 have next : ∀ h' (x : Exd h7 h'), Exd h6 h' ∧ j + 1 ≤ S3.W.length := fun h' x => ⟨x7.trans x, hjl⟩
 (repeat' first | refine go ?_ | (refine hi1 _ ?_) | refine idxS_ fun _ _ _ => ?_ | refine sp (fun _ => ?_) fun _ => ?_ | fail)
 refine CALLN.of (lessR_cal rA (rr1.rin.exd x8) (by omega) (by omega) (fun e h9 x9 => ?_) fun e i9 h9 x9 O9 => ?_)
 ·have x9 : Exd h8 h9 := x9
  (repeat' first | refine go ?_ | refine idxS_ fun _ _ _ => ?_ | refine sp (fun _ => ?_) fun _ => ?_ | fail)
  exact ⟨rfl, j + 1, ⟨rfl, rfl, rfl, rfl, rfl, rfl, rfl, rfl, rfl, rfl, rfl, trivial⟩, next _ (x8.trans x9), by omega⟩
 have x9 : Exd h8 h9 := x9
 have hf := less_fits e
 simp only [grantsS, ek, hf, Bool.true_and] at hng
 cases cl
 ·rw [I3.c] at hng
  simp at hng
 rw [I3.c] at hng
 have a11' := a11.exd (x8.trans x9)
 have rp9 := rp.exd (x7.trans (x8.trans x9))
 (repeat' first | refine go ?_ | (refine hi1 _ ?_) | refine idxS_ fun _ _ _ => ?_ | refine sp (fun _ => ?_) fun _ => ?_ | fail)
 refine CALLN.of (placeR_cal rp9 ek (by omega) ?_)
 obtain ⟨bh, oh', wh, rrh, ah, hih⟩ := ((rh6.exd x7).exd (x8.trans x9)).rowE k2
 have owh := rrh.one
 have elh : ((rowU S3.H kk).length : Int) = 2 := by omega
 have rh9 := (rh6.exd x7).exd (x8.trans x9)
 have hpl : plusOk (rowU S3.H kk) us = true := by
  have hw := (I3.L.c I3.c).1.w _ (List.mem_of_getElem? ea) _ (T3_at G k1) (posI_at ek).2
  simp only at hw
  have hcr := (rowOk_split (G.c _ (rowU_mem k3))).2
  simp only [plusOk, Bool.and_eq_true, decide_eq_true_eq]
  refine ⟨⟨⟨by omega, (rowOk_split (G.rowH (rowU_mem k2))).2⟩, q2⟩, mayU_of fun c hc => ?_⟩
  have h1 := fits_le hw c hc
  rw [addU_len] at hc
  rw [atU_add hc] at h1 ⊢
  have := mayU_atU hcr c
  have := (G.h _ (rowU_mem k2)).2 c
  have := (mayU_atU q2 c).1
  omega
 have lR2 : (rowU S3.H kk).length ≤ 1000000000 := by omega
 by_cases hj0 : j = 0
 ·have hun : safeU (subU S3.A us) (S3.H.set kk (addU (rowU S3.H kk) us)) S3.C = false := by simpa [hj0] using hng
  obtain ⟨N9, hN9⟩ : ∃ N, h9.next = N := ⟨_, rfl⟩
  obtain ⟨v10, h10, ea10, x10, GW, hv10, l10, _⟩ := append_copy (bytes := 24) rh9 hN9 (by omega)
  have o10 := GW.1.one
  (repeat' first | refine go ?_ | (refine rh9.lenS ?_) | (refine rrh.lenS ?_) | (refine SOMEN.mk ea10 ?_) | (refine hi1 _ ?_) | (refine hih _ ?_) | refine idxS_ fun _ _ _ => ?_ | refine sp (fun _ => ?_) fun _ => ?_ | fail)
  have a1210 := a12.exd ((x8.trans x9).trans x10)
  have ah10 := ah.exd x10
  (repeat' first | refine go ?_ | (refine hi1 _ ?_) | (refine hih _ ?_) | refine idxS_ fun _ _ _ => ?_ | refine sp (fun _ => ?_) fun _ => ?_ | fail)
  refine CALLN.of (plusR_cal (rrh.rin.exd x10) (rr1.rin.exd ((x8.trans x9).trans x10)) (by omega) (by omega) (fun e => by rw [hpl] at e; simp at e) fun _ i11 h11 x11 O11 => ?_)
  have x11 : Exd h10 h11 := x11
  have O11 : OwnW h10 h11 i11 ((addU (rowU S3.H kk) us).map (.int .i64)) := O11
  have GW11 := GW.exd x11
  have l11 := x11.le
  have he : rowE.ok (fun i => (fun _ => False) i ∨ isB v10 i) h11 [.slice i11 0 (rowU S3.H kk).length (rowU S3.H kk).length] (addU (rowU S3.H kk) us) := slE.ok (O11.rsl (addU_len _ _) fun i h => h.elim (fun f => f.elim) fun h => (hv10 i h).2)
  (repeat' first | refine go ?_ | (refine GSl.idxS GW11.1 (j := kk) rfl k2 rfl fun bb hbb => ?_) | refine idxS_ fun _ _ _ => ?_ | refine sp (fun _ => ?_) fun _ => ?_ | fail)
  refine GSlW.store GW11 (by assumption) k2 rfl rfl he fun h12 G12 u12 n12 => ?_
  have x912 : Exd h9 h12 := ⟨by have := x10.le; omega, fun i hi => (u12.get i (by have := x10.le; omega) fun h => by have := (hv10 i h).1; omega).trans ((x10.trans x11).get i hi)⟩
  have x712 := (x8.trans x9).trans x912
  have o12 := G12.1.one
  (repeat' first | refine go ?_ | refine idxS_ fun _ _ _ => ?_ | refine sp (fun _ => ?_) fun _ => ?_ | fail)
  refine CALLN.of (bsafe_cal (A := subU S3.A us) (by have := (O9.exd x912).rin (subU_len S3.A us); exact this) (((G12.1.sub (Z' := fun _ => False) fun _ _ f => f).read fun _ _ f => f).rrows fun R hR => ?_) ((rc6.exd (x7.trans x712)).rrows G.lenC) (by rw [subU_len]; omega) fun h13 x13 => ?_)
  ·rcases List.mem_or_eq_of_mem_set hR with h | h
   ·exact G.lenH R h
   ·rw [h, addU_len]; omega
  rw [hun]
  (repeat' first | refine go ?_ | refine idxS_ fun _ _ _ => ?_ | refine sp (fun _ => ?_) fun _ => ?_ | fail)
  exact ⟨rfl, j + 1, ⟨rfl, rfl, rfl, rfl, rfl, rfl, rfl, rfl, rfl, rfl, rfl, trivial⟩, next _ (x712.trans x13), by omega⟩
 ·have hj1 : 0 < (j : Int) := by omega
  (repeat' first | refine go ?_ | (refine rh9.lenS ?_) | (refine rrh.lenS ?_) | (refine hih _ ?_) | refine idxS_ fun _ _ _ => ?_ | refine sp (fun _ => ?_) fun _ => ?_ | fail)
  refine CALLN.of (noneR_cal rrh.rin lR2 ?_)
  cases hnn : noneU (rowU S3.H kk)
  rotate_left
  ·(repeat' first | refine go ?_ | refine idxS_ fun _ _ _ => ?_ | refine sp (fun _ => ?_) fun _ => ?_ | fail)
   exact ⟨rfl, j + 1, ⟨rfl, rfl, rfl, rfl, rfl, rfl, rfl, rfl, rfl, rfl, rfl, trivial⟩, next _ (x8.trans x9), by omega⟩
  have hun : safeU (subU S3.A us) (S3.H.set kk (addU (rowU S3.H kk) us)) S3.C = false := by simpa [hj0, hnn] using hng
  obtain ⟨N9, hN9⟩ : ∃ N, h9.next = N := ⟨_, rfl⟩
  obtain ⟨v10, h10, ea10, x10, GW, hv10, l10, _⟩ := append_copy (bytes := 24) rh9 hN9 (by omega)
  have o10 := GW.1.one
  (repeat' first | refine go ?_ | (refine rh9.lenS ?_) | (refine rrh.lenS ?_) | (refine SOMEN.mk ea10 ?_) | (refine hi1 _ ?_) | (refine hih _ ?_) | refine idxS_ fun _ _ _ => ?_ | refine sp (fun _ => ?_) fun _ => ?_ | fail)
  have a1210 := a12.exd ((x8.trans x9).trans x10)
  have ah10 := ah.exd x10
  (repeat' first | refine go ?_ | (refine hi1 _ ?_) | (refine hih _ ?_) | refine idxS_ fun _ _ _ => ?_ | refine sp (fun _ => ?_) fun _ => ?_ | fail)
  refine CALLN.of (plusR_cal (rrh.rin.exd x10) (rr1.rin.exd ((x8.trans x9).trans x10)) (by omega) (by omega) (fun e => by rw [hpl] at e; simp at e) fun _ i11 h11 x11 O11 => ?_)
  have x11 : Exd h10 h11 := x11
  have O11 : OwnW h10 h11 i11 ((addU (rowU S3.H kk) us).map (.int .i64)) := O11
  have GW11 := GW.exd x11
  have l11 := x11.le
  have he : rowE.ok (fun i => (fun _ => False) i ∨ isB v10 i) h11 [.slice i11 0 (rowU S3.H kk).length (rowU S3.H kk).length] (addU (rowU S3.H kk) us) := slE.ok (O11.rsl (addU_len _ _) fun i h => h.elim (fun f => f.elim) fun h => (hv10 i h).2)
  (repeat' first | refine go ?_ | (refine GSl.idxS GW11.1 (j := kk) rfl k2 rfl fun bb hbb => ?_) | refine idxS_ fun _ _ _ => ?_ | refine sp (fun _ => ?_) fun _ => ?_ | fail)
  refine GSlW.store GW11 (by assumption) k2 rfl rfl he fun h12 G12 u12 n12 => ?_
  have x912 : Exd h9 h12 := ⟨by have := x10.le; omega, fun i hi => (u12.get i (by have := x10.le; omega) fun h => by have := (hv10 i h).1; omega).trans ((x10.trans x11).get i hi)⟩
  have x712 := (x8.trans x9).trans x912
  have o12 := G12.1.one
  (repeat' first | refine go ?_ | refine idxS_ fun _ _ _ => ?_ | refine sp (fun _ => ?_) fun _ => ?_ | fail)
  refine CALLN.of (bsafe_cal (A := subU S3.A us) (by have := (O9.exd x912).rin (subU_len S3.A us); exact this) (((G12.1.sub (Z' := fun _ => False) fun _ _ f => f).read fun _ _ f => f).rrows fun R hR => ?_) ((rc6.exd (x7.trans x712)).rrows G.lenC) (by rw [subU_len]; omega) fun h13 x13 => ?_)
  ·rcases List.mem_or_eq_of_mem_set hR with h | h
   ·exact G.lenH R h
   ·rw [h, addU_len]; omega
  rw [hun]
  (repeat' first | refine go ?_ | refine idxS_ fun _ _ _ => ?_ | refine sp (fun _ => ?_) fun _ => ?_ | fail)
  exact ⟨rfl, j + 1, ⟨rfl, rfl, rfl, rfl, rfl, rfl, rfl, rfl, rfl, rfl, rfl, trivial⟩, next _ (x712.trans x13), by omega⟩
end Go.Proofs.YtncmoaggkdlkhaaGreat.Cm
