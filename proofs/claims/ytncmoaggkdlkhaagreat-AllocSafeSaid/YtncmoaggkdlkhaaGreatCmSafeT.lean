/-
  The clean machine, and what the law's functions do in it: part SafeT of this claim's own texts. No conditions.
-/
import Derived.Test.YtncmoaggkdlkhaaGreatCmJ
import Derived.Test.YtncmoaggkdlkhaaGreatCmK
namespace Go.Proofs.YtncmoaggkdlkhaaGreat.Cm
open Go.RowKit Go.IntWalk
def LeftC (M K : List (List Int)) (W : List Int) (G : List Nat) : Prop := ∃ l, l.Perm ((leftU M.length G).map (prU M K)) ∧ CompP l W
theorem LeftC.step {M K : List (List Int)} {W : List Int} {G : List Nat} {i : Nat} (hM : ∀ i j, 0 ≤ atU (rowU M i) j) (h : LeftC M K W G) (hi : i < M.length) (hG : G.contains i = false) : LeftC M K (addU W (rowU M i)) (G ++ [i]) := by
 obtain ⟨l, p, c⟩ := h
 have pl := p.trans ((leftU_cons hi hG).map (prU M K))
 rw [List.map_cons] at pl
 have hx : prU M K i ∈ l := pl.mem_iff.2 (List.mem_cons_self ..)
 refine ⟨l.erase (prU M K i), ?_, CompP.out (hM i) hx c⟩
 have := pl.erase (prU M K i)
 rwa [List.erase_cons_head] at this
theorem passU_left {M K Q : List (List Int)} (hM : ∀ i j, 0 ≤ atU (rowU M i) j) : ∀ {k : Nat} {W : List Int} {G : List Nat}, k ≤ M.length → LeftC M K W G → LeftC M K (passU M Q M.length k W G).1 (passU M Q M.length k W G).2
 | 0, _, _, _, h => h
 | k + 1, W, G, hk, h => by
   rw [passU]
   split
   ·next hc =>
    simp only [Bool.and_eq_true, Bool.not_eq_true'] at hc
    exact passU_left hM (by omega) (h.step hM (by omega) hc.1)
   ·exact passU_left hM (by omega) h
theorem passU_none {M Q : List (List Int)} {n : Nat} : ∀ {k : Nat} {W : List Int} {G : List Nat}, k ≤ n → (passU M Q n k W G).2.length = G.length → ∀ i, n - k ≤ i → i < n → G.contains i = false → fitsU (rowU Q i) W = false
 | 0, _, _, _, _, i, h1, h2, _ => by omega
 | k + 1, W, G, hk, h, i, h1, h2, h3 => by
   rw [passU] at h
   split at h
   ·next hc =>
    have := (passU_gone (H := M) (Q := Q) (n := n) (k := k) (W := addU W (rowU M (n - (k + 1)))) (G := G ++ [n - (k + 1)]) (by omega)).2.1
    rw [List.length_append, List.length_singleton] at this
    omega
   ·next hc =>
    by_cases e : i = n - (k + 1)
    ·subst e
     rw [h3] at hc
     simpa using hc
    ·exact passU_none (by omega) h i (by omega) h2 h3
theorem goneU_all {M K Q : List (List Int)} (hM : ∀ i j, 0 ≤ atU (rowU M i) j) {N : Nat} (hQ : ∀ i, i < M.length → ∀ W : List Int, W.length = N → needU W (rowU K i) (rowU M i) = true → fitsU (rowU Q i) W = true) :
 ∀ {m : Nat} {W : List Int} {G : List Nat}, G.Nodup → (∀ g ∈ G, g < M.length) → M.length + 1 ≤ G.length + m → LeftC M K W G → W.length = N → leftU M.length (goneU M Q M.length m W G) = []
 | 0, W, G, nd, hg, hm, _, _ => by
   have := nodup_lt nd hg
   omega
 | m + 1, W, G, nd, hg, hm, h, hW => by
   obtain ⟨_, b, c, d, e, _⟩ := passU_gone (H := M) (Q := Q) (n := M.length) (k := M.length) (W := W) (G := G) (Nat.le_refl _)
   by_cases hs : (passU M Q M.length M.length W G).2.length = G.length
   ·rw [goneU_same hs]
    cases hl : leftU M.length G with
    | nil => rfl
    | cons x xs =>
      exfalso
      obtain ⟨l, p, cc⟩ := h
      rw [hl] at p
      cases l with
      | nil => have := p.length_eq; simp at this
      | cons y l =>
        obtain ⟨i, hi, e1⟩ := List.mem_map.1 (p.mem_iff.1 (List.mem_cons_self ..))
        rw [← hl] at hi
        obtain ⟨i1, i2⟩ := leftU_mem.1 hi
        subst e1
        have h1 := passU_none (Nat.le_refl _) hs i (by omega) i1 i2
        rw [hQ i i1 W hW cc.1] at h1
        simp at h1
   ·rw [goneU_more hs]
    exact goneU_all hM hQ (c nd) (d hg) (by omega) (passU_left hM (Nat.le_refl _) h) (by rw [e]; exact hW)
theorem stuck_none {S : AS} (I : LawS S) (hcl : S.cl = true) : stuckS S = [] := by
 have G := I.G
 obtain ⟨C, s⟩ := I.c hcl
 have hb := bank_of G C
 have hr : rowsU S.A S.H S.C = true := by rw [bankU, Bool.and_eq_true] at hb; exact hb.1
 have hl := (rowsU_len hr).1
 have hM : ∀ i j, 0 ≤ atU (rowU S.H i) j := fun i j => by
  by_cases hi : i < S.H.length
  ·exact (G.h _ (rowU_mem hi)).2 j
  ·rw [show rowU S.H i = [] by rw [rowU, List.getD_eq_getElem?_getD, List.getElem?_eq_none (by omega)]; rfl, atU_out (by simp)]
   exact Int.le_refl _
 have hQ : ∀ i, i < S.H.length → ∀ W : List Int, W.length = S.T.length → needU W (rowU S.C i) (rowU S.H i) = true → fitsU (rowU (asksS S) i) W = true := fun i hi W hW hn => by
  have hip : i < S.P.length := by rw [← G.hl]; exact hi
  have hia : rowU (asksS S) i = askOf S (S.P.getD i 0) := by
   rw [rowU, List.getD_eq_getElem?_getD, asksS_map, List.getElem?_map, List.getD_eq_getElem?_getD, List.getElem?_eq_getElem hip]; rfl
  have hn := needU_iff.1 hn
  have lH := (G.h _ (rowU_mem hi)).1
  rw [hia]
  have hf := C.f _ (T3_at G hip)
  unfold askOf
  split
  ·refine fitsU_iff.2 ⟨by rw [ofJ_length]; exact hW.symm, fun j hj => ?_⟩
   rw [ofJ_length] at hj
   have h1 := hn j (by omega)
   have h2 := fits_le hf j (by simp only; omega)
   simp only at h2
   rw [atU_ofJ hj]
   omega
  ·next w hw =>
   obtain ⟨w1, w2⟩ := posI_at hw
   rw [List.length_map] at w1
   rw [getD_fst] at w2
   have hm : S.W.getD w (0, []) ∈ S.W := by
    rw [List.getD_eq_getElem?_getD, List.getElem?_eq_getElem w1]; exact List.getElem_mem w1
   have hc := C.w _ hm _ (T3_at G hip) w2.symm
   simp only at hc
   have hu := (rowOk_split (G.w _ hm).2).1
   refine fitsU_iff.2 ⟨by omega, fun j hj => ?_⟩
   have h1 := hn j (by omega)
   have h2 := fits_le hc j (by rw [addU_len]; omega)
   rw [atU_add (by omega)] at h2
   omega
 have hra : rowsU S.A S.H (asksS S) = true := rowsU_of G (by rw [asksS_map, List.length_map, G.hl]) fun R hR => by
  rw [asksS_map] at hR
  obtain ⟨p, _, rfl⟩ := List.mem_map.1 hR
  exact rowOk_of (askOf_len G p).1 (askOf_len G p).2
 obtain ⟨l, p, cc⟩ := (safeU_iff hb).1 s
 rw [stuckS, stuckU, if_pos hra, goneU_all hM hQ List.nodup_nil (fun g hg => by simp at hg) (by simp) ⟨l, by rw [map_prU hl]; exact p, cc⟩ G.a]
 rfl
end Go.Proofs.YtncmoaggkdlkhaaGreat.Cm
namespace Go.Proofs.YtncmoaggkdlkhaaGreat.Cm
open Go.RowKit Go.IntWalk
attribute [local irreducible] Heap.set Heap.new Heap.kill Heap.get Heap.room Cal WP
set_option maxHeartbeats 2000000 in
theorem allocSafe_cal {h : Heap} {n : Int} {vl vm : CVal} {L M : List Int} (rl : RIn h vl L) (rm : RIn h vm M) (bm : ∀ x ∈ M, -9223372036854775808 ≤ x ∧ x ≤ 9223372036854775807) : Cal tt 6 [.int .i64 n, vl, vm] h fun v _ => v = .bool true := by
 refine Cal.run rfl rfl rfl rfl ?_
 by_cases hc : 1 ≤ n ∧ n ≤ 8 ∧ L.length ≤ 40 ∧ M.length ≤ 80
 rotate_left
 ·rcases (show n < 1 ∨ (1 ≤ n ∧ 8 < n) ∨ (1 ≤ n ∧ n ≤ 8 ∧ 40 < L.length) ∨ (1 ≤ n ∧ n ≤ 8 ∧ L.length ≤ 40 ∧ 80 < M.length) by omega) with hc | hc | hc | hc
  all_goals
   (repeat' first | refine go ?_ | (refine CALLN.of (awake_cal ?_)) | refine idxS_ fun _ _ _ => ?_ | refine sp (fun _ => ?_) fun _ => ?_ | fail)
   rfl
 (repeat' first | refine go ?_ | refine idxS_ fun _ _ _ => ?_ | refine sp (fun _ => ?_) fun _ => ?_ | fail)
 refine CALLN.of (made_cal (by omega) rl (by omega) fun p q h1 Z F S TB LS t2 cc x1 z1 => ?_)
 have I0 : LawI h true Z F h1 p q S := ⟨TB, LS, t2, cc, x1, z1⟩
 clear TB LS t2 cc x1 z1
 (repeat' first | refine go ?_ | refine idxS_ fun _ _ _ => ?_ | refine sp (fun _ => ?_) fun _ => ?_ | fail)
 refine loopC (fun y : Nat × (Nat → Prop) × (Nat → Prop) × AS => [(0, .int .i64 n), (2, vm), (7, .ptr p 0), (8, .ptr q 0), (9, .int .i64 y.1)]) (fun y h' => LawI h true y.2.1 y.2.2.1 h' p q y.2.2.2 ∧ y.1 ≤ M.length) (fun y => M.length - y.1) (0, Z, F, S) ⟨rfl, rfl, rfl, rfl, rfl, trivial⟩ ⟨I0, Nat.zero_le _⟩ ?_
 rintro ⟨i, Z, F, S⟩ ρ h' ⟨I, hi⟩
 simp only at I hi ⊢
 have rm' := rm.exd I.x
 by_cases hil : i < M.length
 rotate_left
 ·(repeat' first | refine go ?_ | (refine CALLN.of (awake_cal ?_)) | refine idxS_ fun _ _ _ => ?_ | refine sp (fun _ => ?_) fun _ => ?_ | fail)
  rfl
 have ei : ∀ R : List Int, R.getD (i : Int).toNat 0 = R.getD i 0 := fun R => by rw [Int.toNat_natCast]
 have bx : -9223372036854775808 ≤ M.getD i 0 ∧ M.getD i 0 ≤ 9223372036854775807 := by
  rw [List.getD_eq_getElem?_getD, List.getElem?_eq_getElem hil]
  exact bm _ (List.getElem_mem hil)
 (repeat' first | refine go ?_ | ((refine RIn.idxS rm' (by omega) fun b o gB => ?_; rw [ei] at gB)) | refine idxS_ fun _ _ _ => ?_ | refine sp (fun _ => ?_) fun _ => ?_ | fail)
 refine CALLN.of (turn_cal bx (by omega) fun kind pid a b N h2 x2 k0 kp lN lN' g2 => ?_)
 have x2 : Exd h' h2 := x2
 have I2 := I.exd x2
 have lN : h'.next ≤ N := lN
 (repeat' first | refine go ?_ | refine idxS_ fun _ _ _ => ?_ | refine sp (fun _ => ?_) fun _ => ?_ | fail)
 refine CALLN.of (plays_cal (kind := kind) (pid := pid) I2.T.two (rsl2 g2 lN' (I.fresh lN)) (Nat.le_of_ble_eq_true rfl) kp fun h3 Z3 F3 g3 _ B3 => ?_)
 have I3 := I2.grow g3 (B3 k0) (I2.L.play k0) (playS_T k0)
 generalize playS S kind pid [a, b] = S3 at *
 clear B3 g3 I2 x2 g2 rm' I
 have G := I3.L.G
 have lH := G.hl
 have p32 := G.p32
 have lA := G.a
 have t6 := G.t6
 obtain ⟨_, _, _, _, _, _, _, _, P⟩ := I3.pv
 have hs : safeS S3 = true := (I3.L.c I3.c).2
 have hst := stuck_none I3.L I3.c
 (repeat' first | refine go ?_ | refine idxS_ fun _ _ _ => ?_ | refine sp (fun _ => ?_) fun _ => ?_ | fail)
 refine CALLN.of (helds_cal P G I3.t fun vh vc va h4 x4 rh rc _ => ?_)
 have x4 : Exd h3 h4 := x4
 have oh := rh.one
 have oc := rc.one
 (repeat' first | refine go ?_ | refine idxS_ fun _ _ _ => ?_ | refine sp (fun _ => ?_) fun _ => ?_ | fail)
 refine CALLN.of (safeB_cal (P.exd x4) G fun h5 x5 => ?_)
 rw [hs]
 have x45 : Exd h4 h5 := x5
 have x35 : Exd h3 h5 := x4.trans x5
 clear x5
 (repeat' first | refine go ?_ | refine idxS_ fun _ _ _ => ?_ | refine sp (fun _ => ?_) fun _ => ?_ | fail)
 refine CALLN.of (availB_cal (P.exd x35) G fun vA h6 x6 rA _ => ?_)
 have x46 : Exd h4 h6 := x45.trans x6
 have x36 : Exd h3 h6 := x35.trans x6
 clear x6 x45
 have oA := rA.one
 (repeat' first | refine go ?_ | refine idxS_ fun _ _ _ => ?_ | refine sp (fun _ => ?_) fun _ => ?_ | fail)
 refine CALLN.of (safeR_cal rA ((rh.exd x46).rrows G.lenH) ((rc.exd x46).rrows G.lenC) (by omega) fun h7 x7 => ?_)
 rw [show safeU S3.A S3.H S3.C = true from hs]
 have x37 : Exd h3 h7 := x36.trans x7
 clear x7 x46 x4
 (repeat' first | refine go ?_ | refine idxS_ fun _ _ _ => ?_ | refine sp (fun _ => ?_) fun _ => ?_ | fail)
 refine CALLN.of (stuckB_cal (P.exd x37) G fun vt h8 x8 rt => ?_)
 have rt : RIn h8 vt (stuckS S3) := rt
 rw [hst] at rt
 have x38 : Exd h3 h8 := x37.trans x8
 clear x8
 have e0 : (([] : List Int).length : Int) = 0 := rfl
 (repeat' first | refine go ?_ | refine idxS_ fun _ _ _ => ?_ | refine sp (fun _ => ?_) fun _ => ?_ | fail)
 exact ⟨rfl, (i + 1, Z3, F3, S3), ⟨rfl, rfl, rfl, rfl, rfl, trivial⟩, ⟨I3.exd x38, hil⟩, by simp only; omega⟩
end Go.Proofs.YtncmoaggkdlkhaaGreat.Cm
