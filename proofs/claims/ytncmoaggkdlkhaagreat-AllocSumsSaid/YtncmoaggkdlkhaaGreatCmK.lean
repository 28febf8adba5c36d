/-
  The clean machine, and what the law's functions do in it: part K of this claim's own texts. No conditions.
-/
import Derived.Test.YtncmoaggkdlkhaaGreatCmL
namespace Go.Proofs.YtncmoaggkdlkhaaGreat.Cm
open Go.RowKit Go.IntWalk
attribute [local irreducible] Heap.set Heap.new Heap.kill Heap.get Heap.room Cal WP
def askK (W : List (Int × List Int)) (k : Nat) (x : Int) : List Int := match posI ((W.take k).map (·.1)) x with
 | none => [0, 0]
 | some w => (W.getD w (0, [])).2
theorem askK_zero (W : List (Int × List Int)) (x : Int) : askK W 0 x = [0, 0] := by rw [askK, List.take_zero]; rfl
theorem take_fst {W : List (Int × List Int)} {k : Nat} {pid : Int} {us : List Int} (e : W[k]? = some (pid, us)) : (W.take (k + 1)).map (·.1) = (W.take k).map (·.1) ++ [pid] := by
 rw [List.take_add_one, e, List.map_append]; rfl
theorem askK_yes {W : List (Int × List Int)} (nd : (W.map (·.1)).Nodup) {k : Nat} {pid : Int} {us : List Int} (e : W[k]? = some (pid, us)) : askK W (k + 1) pid = us := by
 have hk := (List.getElem?_eq_some_iff.1 e).1
 have hl : ((W.take k).map (·.1)).length = k := by rw [List.length_map, List.length_take]; omega
 have h1 : posI ((W.take (k + 1)).map (·.1)) pid = some k := by
  rw [take_fst e]
  refine posI_some (by rw [List.length_append, hl, List.length_singleton]; omega) (by rw [List.getD_eq_getElem?_getD, List.getElem?_append_right (by omega), hl, Nat.sub_self]; rfl) fun p hp h => ?_
  rw [List.getD_eq_getElem?_getD, List.getElem?_append_left (by omega), List.getElem?_map, List.getElem?_take, if_pos hp, ← List.getElem?_map] at h
  have hpl : p < (W.map (·.1)).length := by rw [List.length_map]; omega
  have h2 : (W.map (·.1))[p]? = some pid := by
   rw [List.getElem?_eq_getElem hpl] at h ⊢
   simpa using h
  have h3 : (W.map (·.1))[k]? = some pid := by rw [List.getElem?_map, e]; rfl
  have := (List.getElem?_inj hpl nd).1 (h2.trans h3.symm)
  omega
 rw [askK, h1]
 simp only
 rw [List.getD_eq_getElem?_getD, e]; rfl
theorem askK_no {W : List (Int × List Int)} {k : Nat} {pid x : Int} {us : List Int} (e : W[k]? = some (pid, us)) (h : pid ≠ x) : askK W (k + 1) x = askK W k x := by
 have hk := (List.getElem?_eq_some_iff.1 e).1
 rw [askK, askK, take_fst e]
 cases hq : posI ((W.take k).map (·.1)) x with
 | none =>
   rw [show posI ((W.take k).map (·.1) ++ [pid]) x = none from posI_mem.2 fun hx => by
    rcases List.mem_append.1 hx with h1 | h1
    ·exact posI_mem.1 hq h1
    ·rw [List.mem_singleton] at h1; exact h h1.symm]
 | some w =>
   have h1 : posI ((W.take k).map (·.1) ++ [pid]) x = some w := by
    rw [posI, List.findIdx?_append]
    rw [posI] at hq
    rw [hq]; rfl
   rw [h1]
theorem askK_all (W : List (Int × List Int)) (S : AS) (h : S.W = W) (h2 : S.T.length = 2) (x : Int) : askK W W.length x = askOf S x := by
 subst h
 rw [askK, askOf, posW, List.take_length, h2]
 rfl
theorem RIn.atE {h : Heap} {v : CVal} {R : List Int} {j : Nat} (s : RIn h v R) (hj : j < R.length) : ∃ b o, At1 h b o (.int .i64 (R.getD j 0)) ∧ ∀ K : Nat → Nat → Prop, K b o → Cm.idxS 1 v (j : Int) K := by
 rcases s with ⟨rfl, rfl⟩ | ⟨b, o, c, rfl, hb, ra⟩
 ·simp at hj
 ·rcases ra with rfl | ⟨cs, wr, opn, g, a⟩
  ·simp at hj
  ·refine ⟨b, o + j * 1, ⟨hb, cs, wr, opn, g, by rw [Nat.mul_one, a _ hj]; simp [List.getD, hj]⟩, fun K q => ⟨by omega, by rw [Int.toNat_natCast]; exact q⟩⟩
section
variable {h₀ : Heap} {Z : Nat → Prop} {h : Heap} {p : Nat} {S : AS} {vT vA vS : CVal} {mH mC : Nat} {HL : List ((Int × Int) × CVal)} {CL : List (Int × CVal)} {Q : CVal → Heap → Prop}
def is3 (a b c : CVal) (i : Nat) : Prop := isB a i ∨ isB b i ∨ isB c i
structure HeldsI (hs h : Heap) (S : AS) (j : Nat) (vh vc va : CVal) : Prop where
 x : Exd hs h
 l : j ≤ S.P.length
 H : GSl (is3 vh vc va) rowE h vh (S.H.take j)
 C : GSl (is3 vh vc va) rowE h vc (S.C.take j)
 A : GSl (is3 vh vc va) rowE h va ((S.P.take j).map (askOf S))
 f : ∀ i, is3 vh vc va i → hs.next ≤ i
 n1 : ∀ i, isB vh i → ¬ isB vc i ∧ ¬ isB va i
 n2 : ∀ i, isB vc i → ¬ isB va i
set_option maxHeartbeats 4000000 in
theorem helds_cal (P : PV h₀ Z h p S vT vA vS mH mC HL CL) (G : GoodS S) (t2 : S.T.length = 2) (k : ∀ vh vc va h', Exd h h' → RSl (fun _ => False) rowE h' vh S.H → RSl (fun _ => False) rowE h' vc S.C → RSl (fun _ => False) rowE h' va (asksS S) → Q (.tuple [vh, vc, va]) h') : Cal tt 22 [.ptr p 0] h Q := by
 refine Cal.run rfl rfl rfl rfl ?_
 have t6 := G.t6
 have p32 := G.p32
 have wl := G.wl
 have lH := G.hl
 have lC := G.cl
 (repeat' first | refine go ?_ | refine idxS_ fun _ _ _ => ?_ | refine sp (fun _ => ?_) fun _ => ?_ | fail)
 refine CALLN.of (pidsB_cal P G fun vp h1 x1 rp _ => ?_)
 have x1 : Exd h h1 := x1
 have rp : RIn h1 vp S.P := rp
 have op := rp.one
 (repeat' first | refine go ?_ | refine idxS_ fun _ _ _ => ?_ | refine sp (fun _ => ?_) fun _ => ?_ | fail)
 refine CALLN.of (pendingB_cal (P.exd x1) G fun vw h2 x2 rw' => ?_)
 have x2 : Exd h1 h2 := x2
 have rw' : RSl (fun _ => False) askE h2 vw S.W := rw'
 have rw2 := rw'.sub (Z' := fun i => h2.next ≤ i) fun i hi h => by omega
 have ow := rw'.one
 have x02 := x1.trans x2
 have rp2 := rp.exd x2
 have P2 := P.exd x02
 clear x1 x2 rp rw'
 obtain ⟨N, hN⟩ : ∃ N, h2.next = N := ⟨_, rfl⟩
 have I0 : HeldsI h2 (((h2.new (.cells [] true none)).new (.cells [] true none)).new (.cells [] true none)) S 0 (.slice N 0 0 0) (.slice (N + 1) 0 0 0) (.slice (N + 2) 0 0 0) := by
  refine ⟨by exact exd_, Nat.zero_le _, GSl.new (wr := true) (by exact get_) (by exact lt_), GSl.new (wr := true) (by exact get_) (by exact lt_), GSl.new (wr := true) (by exact get_) (by exact lt_), fun i h => ?_, fun i h => ?_, fun i h => ?_⟩
  ·rcases h with h | h | h <;> (rw [isB_slice] at h; omega)
  ·rw [isB_slice] at h
   exact ⟨fun h2 => by rw [isB_slice] at h2; omega, fun h2 => by rw [isB_slice] at h2; omega⟩
  ·rw [isB_slice] at h
   exact fun h2 => by rw [isB_slice] at h2; omega
 (repeat' first | refine go ?_ | refine idxS_ fun _ _ _ => ?_ | refine sp (fun _ => ?_) fun _ => ?_ | fail)
 refine loopC (fun y : Nat × CVal × CVal × CVal => [(0, .ptr p 0), (5, vp), (6, vw), (7, y.2.1), (8, y.2.2.1), (9, y.2.2.2), (10, .int .i64 y.1)]) (fun y h' => HeldsI h2 h' S y.1 y.2.1 y.2.2.1 y.2.2.2) (fun y => S.P.length - y.1) (0, .slice N 0 0 0, .slice (N + 1) 0 0 0, .slice (N + 2) 0 0 0) ⟨rfl, rfl, rfl, rfl, rfl, rfl, rfl, trivial⟩ I0 ?_
 rintro ⟨j, vh, vc, va⟩ ρ h' I
 simp only at I ⊢
 obtain ⟨xk, hj, Gh, Gc, Ga, f3, n1, n2⟩ := I
 have oh := Gh.one
 have oc := Gc.one
 have oa := Ga.one
 have rp3 := rp2.exd xk
 by_cases hjl : j < S.P.length
 rotate_left
 ·obtain rfl : j = S.P.length := by omega
  rw [List.take_of_length_le (by omega)] at Gh Gc Ga
  rw [← asksS_map] at Ga
  (repeat' first | refine go ?_ | refine idxS_ fun _ _ _ => ?_ | refine sp (fun _ => ?_) fun _ => ?_ | fail)
  exact k _ _ _ _ (x02.trans xk) ((Gh.sub (Z' := fun _ => False) fun _ _ f => f.elim).read fun _ _ f => f) ((Gc.sub (Z' := fun _ => False) fun _ _ f => f.elim).read fun _ _ f => f) ((Ga.sub (Z' := fun _ => False) fun _ _ f => f.elim).read fun _ _ f => f)
 have ej : ∀ R : List Int, R.getD (j : Int).toNat 0 = R.getD j 0 := fun R => by rw [Int.toNat_natCast]
 have lk := xk.le
 obtain ⟨Nu, hNu⟩ : ∃ N, h'.next = N := ⟨_, rfl⟩
 have xu : Exd h' (h'.new (.cells [.int .i64 0, .int .i64 0] true none)) := Exd.new (Exd.refl _)
 have gu : (h'.new (.cells [.int .i64 0, .int .i64 0] true none)).get Nu = some (.cells [.int .i64 0, .int .i64 0] true none) := by exact get_
 have lt3 : ∀ i, is3 vh vc va i → i < h'.next := fun i h => by
  rcases h with h | h | h
  ·exact Gh.1 i h
  ·exact Gc.1 i h
  ·exact Ga.1 i h
 have ru : RSl (is3 vh vc va) intE (h'.new (.cells [.int .i64 0, .int .i64 0] true none)) (.slice Nu 0 2 2) (askK S.W 0 (S.P.getD j 0)) := by
  rw [askK_zero]
  exact rsl2 gu (by exact lt_) fun h => by have := lt3 Nu h; omega
 have nu : (h'.new (.cells [.int .i64 0, .int .i64 0] true none)).next = Nu + 1 := by rw [Heap.next_new, hNu]
 (repeat' first | refine go ?_ | refine idxS_ fun _ _ _ => ?_ | refine sp (fun _ => ?_) fun _ => ?_ | fail)
 obtain ⟨h3, e3⟩ : ∃ h3, h'.new (.cells [.int .i64 0, .int .i64 0] true none) = h3 := ⟨_, rfl⟩
 rw [e3] at xu ru nu ⊢
 clear gu e3
 have rw3 := rw2.exd (xk.trans xu)
 have rp4 := rp3.exd xu
 refine loopC (fun y : Nat × CVal => [(0, .ptr p 0), (5, vp), (6, vw), (7, vh), (8, vc), (9, va), (10, .int .i64 j), (11, y.2), (12, .int .i64 y.1)]) (fun y h'' => h'' = h3 ∧ y.1 ≤ S.W.length ∧ RSl (is3 vh vc va) intE h3 y.2 (askK S.W y.1 (S.P.getD j 0))) (fun y => S.W.length - y.1) (0, .slice Nu 0 2 2) ⟨rfl, rfl, rfl, rfl, rfl, rfl, rfl, rfl, rfl, trivial⟩ ⟨rfl, Nat.zero_le _, ru⟩ ?_
 rintro ⟨i, vu⟩ ρ2 h4 ⟨rfl, hi, ru⟩
 simp only at hi ru ⊢
 have ou := ru.one
 by_cases hil : i < S.W.length
 ·obtain ⟨a, ea⟩ : ∃ a, S.W[i]? = some a := ⟨_, List.getElem?_eq_getElem hil⟩
  obtain ⟨pid, us⟩ := a
  obtain ⟨b1, o1, w1, rr1, a1, hi1⟩ := rw3.pairE ea
  have a11 : At1 h4 b1 o1 (.int .i64 pid) := a1.at (j := 0) rfl
  have a12 : At1 h4 b1 (o1 + 1) w1 := a1.at (j := 1) rfl
  have ow1 := rr1.one
  by_cases hx : pid = S.P.getD j 0
  ·(repeat' first | refine go ?_ | (refine rw3.lenS ?_) | (refine hi1 _ ?_) | ((refine RIn.idxS rp4 (by omega) fun b o gB => ?_; rw [ej] at gB)) | refine idxS_ fun _ _ _ => ?_ | refine sp (fun _ => ?_) fun _ => ?_ | fail)
   exact ⟨rfl, (i + 1, w1), ⟨rfl, rfl, rfl, rfl, rfl, rfl, rfl, rfl, rfl, trivial⟩, ⟨rfl, hil, by rw [← hx]; simp only; rw [askK_yes G.wd ea]; exact rr1.sub fun i _ h => f3 i h⟩, by simp only; omega⟩
  ·(repeat' first | refine go ?_ | (refine rw3.lenS ?_) | (refine hi1 _ ?_) | ((refine RIn.idxS rp4 (by omega) fun b o gB => ?_; rw [ej] at gB)) | refine idxS_ fun _ _ _ => ?_ | refine sp (fun _ => ?_) fun _ => ?_ | fail)
   exact ⟨rfl, (i + 1, vu), ⟨rfl, rfl, rfl, rfl, rfl, rfl, rfl, rfl, rfl, trivial⟩, ⟨rfl, hil, by simp only; rw [askK_no ea hx]; exact ru⟩, by simp only; omega⟩
 obtain rfl : i = S.W.length := by omega
 rw [askK_all S.W S rfl t2] at ru
 have xr : Exd h4 (h4.room 1) := Exd.roomR
 have nr : (h4.room 1).next = Nu + 2 := Heap.nx_room nu
 have Pr := P2.exd ((xk.trans xu).trans xr)
 obtain ⟨bp, op', ap, hip⟩ := rp2.atE hjl
 have ap4 := ap.exd (xk.trans xu)
 have apr := ap4.exd xr
 (repeat' first | refine go ?_ | (refine rw3.lenS ?_) | (refine hip _ ?_) | refine idxS_ fun _ _ _ => ?_ | refine sp (fun _ => ?_) fun _ => ?_ | fail)
 refine CALLN.of (heldB_cal Pr G fun v5 h5 x5 r5 b5 => ?_)
 have x5 : Exd (h4.room 1) h5 := x5
 have r5 : GSl (fun _ => False) intE h5 v5 (rowOf S.H S (S.P.getD j 0)) := r5
 rw [rowOf_at G hjl] at r5
 have b5 : ∀ b, isB v5 b → (h4.room 1).next ≤ b := b5
 have o5 := r5.one
 have l5 := x5.le
 have lu := xu.le
 obtain ⟨N5, hN5⟩ : ∃ N, h5.next = N := ⟨_, rfl⟩
 have x45 := xr.trans x5
 have wide : ∀ {v : CVal} {M : List (List Int)}, GSl (is3 vh vc va) rowE h' v M → GSl (fun i => is3 vh vc va i ∨ h'.next ≤ i) rowE h' v M := fun s => s.sub fun i hi h => h.elim id fun h => by omega
 have Gh5 := (wide Gh).exd (xu.trans x45)
 have Gc5 := (wide Gc).exd (xu.trans x45)
 have Ga5 := (wide Ga).exd (xu.trans x45)
 have x6 : Exd h5 (h5.new (.cells [v5] true none)) := Exd.new (Exd.refl _)
 have src6 : srcC (h5.new (.cells [v5] true none)) 1 (.slice N5 0 1 1) = some (1, [v5]) := src_one (by exact get_) rfl rfl
 have i3 : ∀ i, is3 vh vc va i → i < Nu := fun i h => by have := lt3 i h; omega
 have y3 : ∀ {v : CVal} {M : List (List Int)}, GSl (fun i => is3 vh vc va i ∨ h'.next ≤ i) rowE h5 v M → GSl (fun i => is3 vh vc va i ∨ N5 ≤ i ∨ i = Nu + 1) rowE h5 v M := fun s => s.sub fun i hi h => h.imp id fun h => h.elim (fun h => by omega) fun h => by omega
 have he6 : rowE.ok (fun i => (is3 vh vc va i ∨ N5 ≤ i ∨ i = Nu + 1) ∨ isB vh i) (h5.new (.cells [v5] true none)) [v5] (rowU S.H j) := slE.ok (((r5.ints_any : GSl (fun i => (is3 vh vc va i ∨ N5 ≤ i ∨ i = Nu + 1) ∨ isB vh i) intE h5 v5 (rowU S.H j)).read fun b hb h => by
  have h1 := b5 b hb
  have h2 := r5.1 b hb
  rcases h with (h | h | h) | h
  ·have := i3 b h; omega
  ·omega
  ·omega
  ·have := i3 b (.inl h); omega).exd x6)
 obtain ⟨h7, e7, u7, n7, G7⟩ := ((y3 Gh5).exd x6).push1 (bytes := 24) (a := rowU S.H j) (N := N5 + 1) src6 (by rw [List.length_take]; omega) he6 (by rw [Heap.next_new, hN5])
 have u57 : Upd (isB vh) h5 h7 := x6.upd.trans u7
 have l7 := u57.le
 have x27 : Exd h2 h7 := ⟨by omega, fun i hi => (u57.get i (by omega) fun h => by have := f3 i (.inl h); omega).trans ((xk.trans (xu.trans x45)).get i hi)⟩
 have P7 := P2.exd x27
 have ap5 := apr.exd x5
 have ap6 := ap5.exd x6
 have ap7 := ap.exd x27
 (repeat' first | refine go ?_ | (refine SOMEN.mk e7 ?_) | (refine hip _ ?_) | refine idxS_ fun _ _ _ => ?_ | refine sp (fun _ => ?_) fun _ => ?_ | fail)
 refine CALLN.of (claimB_cal P7 G fun v8 h8 x8 r8 => ?_)
 have x8 : Exd h7 h8 := x8
 have r8 : ∀ Z : Nat → Prop, (∀ i, Z i → i < h7.next) → RSl Z intE h8 v8 (rowOf S.C S (S.P.getD j 0)) := r8
 rw [rowOf_at G hjl] at r8
 have o8 := (r8 (fun _ => False) fun _ f => f.elim).one
 have l8 := x8.le
 obtain ⟨N8, hN8⟩ : ∃ N, h8.next = N := ⟨_, rfl⟩
 have u58 : Upd (isB vh) h5 h8 := u57.trans x8.upd
 have Gc8 : GSl (fun i => i = N5 + 1 ∨ isB vc i ∨ isB va i ∨ N8 ≤ i ∨ i = Nu + 1) rowE h8 vc (S.C.take j) := (Gc5.upd u58 fun i _ h => ⟨.inl (.inl h), (n1 i h).1⟩).sub fun i hi h => by
  rcases h with h | h | h | h | h
  ·exact .inr (by omega)
  ·exact .inl (.inr (.inl h))
  ·exact .inl (.inr (.inr h))
  ·omega
  ·exact .inr (by omega)
 have x9 : Exd h8 (h8.new (.cells [v8] true none)) := Exd.new (Exd.refl _)
 have src9 : srcC (h8.new (.cells [v8] true none)) 1 (.slice N8 0 1 1) = some (1, [v8]) := src_one (by exact get_) rfl rfl
 have he9 : rowE.ok (fun i => (i = N5 + 1 ∨ isB vc i ∨ isB va i ∨ N8 ≤ i ∨ i = Nu + 1) ∨ isB vc i) (h8.new (.cells [v8] true none)) [v8] (rowU S.C j) := slE.ok (((r8 (fun i => i = N5 + 1 ∨ isB vc i ∨ isB va i ∨ i = Nu + 1) fun i h => by
  rcases h with h | h | h | h
  ·omega
  ·have := i3 i (.inr (.inl h)); omega
  ·have := i3 i (.inr (.inr h)); omega
  ·omega).sub fun i hi h => by
  rcases h with (h | h | h | h | h) | h
  ·exact .inl h
  ·exact .inr (.inl h)
  ·exact .inr (.inr (.inl h))
  ·omega
  ·exact .inr (.inr (.inr h))
  ·exact .inr (.inl h)).exd x9)
 obtain ⟨h10, e10, u10, n10, G10⟩ := (Gc8.exd x9).push1 (bytes := 24) (a := rowU S.C j) (N := N8 + 1) src9 (by rw [List.length_take]; omega) he9 (by rw [Heap.next_new, hN8])
 have u810 : Upd (isB vc) h8 h10 := x9.upd.trans u10
 have l10 := u810.le
 have uB : Upd (fun i => i = Nu + 1) h10 (h10.set (Nu + 1) (.cells [vu] true none)) := Upd.set (Upd.refl _ _) (.inl rfl)
 have u511 : Upd (fun i => isB vh i ∨ isB vc i ∨ i = Nu + 1) h5 (h10.set (Nu + 1) (.cells [vu] true none)) := ((u58.sub fun i _ h => .inl h).trans (u810.sub fun i _ h => .inr (.inl h))).trans (uB.sub fun i _ h => .inr (.inr h))
 have Ga11 : GSl (fun i => i = N5 + 1 ∨ i = N8 + 1 ∨ isB va i ∨ N8 + 2 ≤ i) rowE (h10.set (Nu + 1) (.cells [vu] true none)) va ((S.P.take j).map (askOf S)) := (Ga5.upd u511 fun i _ h => by
  rcases h with h | h | h
  ·exact ⟨.inl (.inl h), (n1 i h).2⟩
  ·exact ⟨.inl (.inr (.inl h)), n2 i h⟩
  ·exact ⟨.inr (by omega), fun h2 => by have := i3 i (.inr (.inr h2)); omega⟩).sub fun i hi h => by
  rcases h with h | h | h | h
  ·exact .inr (by omega)
  ·exact .inr (by omega)
  ·exact .inl (.inr (.inr h))
  ·exact .inr (by omega)
 have ru5 : RSl (fun i => is3 vh vc va i ∨ Nu + 1 ≤ i) intE h5 vu (askOf S (S.P.getD j 0)) := (ru.sub fun i hi h => h.elim id fun h => by omega).exd x45
 have he11 : rowE.ok (fun i => (i = N5 + 1 ∨ i = N8 + 1 ∨ isB va i ∨ N8 + 2 ≤ i) ∨ isB va i) (h10.set (Nu + 1) (.cells [vu] true none)) [vu] (askOf S (S.P.getD j 0)) := slE.ok ((ru5.upd (u511.sub fun i _ h => by
  rcases h with h | h | h
  ·exact .inl (.inl h)
  ·exact .inl (.inr (.inl h))
  ·exact .inr (by omega))).sub fun i _ h => by
  rcases h with (h | h | h | h) | h
  ·exact .inr (by omega)
  ·exact .inr (by omega)
  ·exact .inl (.inr (.inr h))
  ·exact .inr (by omega)
  ·exact .inl (.inr (.inr h)))
 have src11 : srcC (h10.set (Nu + 1) (.cells [vu] true none)) 1 (.slice (Nu + 1) 0 1 1) = some (1, [vu]) := src_one (by exact get_) rfl rfl
 obtain ⟨h12, e12, u12, n12, G12⟩ := Ga11.push1 (bytes := 24) (a := askOf S (S.P.getD j 0)) (N := N8 + 2) src11 (by rw [List.length_map, List.length_take]; omega) he11 (by rw [Heap.next_set]; omega)
 (repeat' first | refine go ?_ | (refine SOMEN.mk e10 ?_) | (refine SOMEN.mk e12 ?_) | refine idxS_ fun _ _ _ => ?_ | refine sp (fun _ => ?_) fun _ => ?_ | fail)
 have l12 := u12.le
 rw [Heap.next_set] at l12
 have hpj : S.P.take (j + 1) = S.P.take j ++ [S.P.getD j 0] := by
  rw [List.take_add_one, List.getD_eq_getElem?_getD, List.getElem?_eq_getElem hjl]; rfl
 have n7' : h7.next = N5 + 2 := by rw [n7]
 refine ⟨rfl, (j + 1, _, _, _), ⟨rfl, rfl, rfl, rfl, rfl, rfl, rfl, trivial⟩, (?_ : HeldsI h2 h12 S (j + 1) (.slice (N5 + 1) 0 ((S.H.take j).length + 1) ((S.H.take j).length + 1)) (.slice (N8 + 1) 0 ((S.C.take j).length + 1) ((S.C.take j).length + 1)) (.slice (N8 + 2) 0 (((S.P.take j).map (askOf S)).length + 1) (((S.P.take j).map (askOf S)).length + 1))), by simp only; omega⟩
 have u712 : Upd (fun i => isB vc i ∨ isB va i ∨ i = Nu + 1) h7 h12 := ((x8.upd.trans (u810.sub fun i _ h => .inl h)).trans (uB.sub fun i _ h => .inr (.inr h))).trans (u12.sub fun i _ h => .inr (.inl h))
 have u1012 : Upd (fun i => isB va i ∨ i = Nu + 1) h10 h12 := (uB.sub fun i _ h => .inr h).trans (u12.sub fun i _ h => .inl h)
 refine ⟨⟨by omega, fun i hi => (u712.get i (by omega) fun h => by
  rcases h with h | h | h
  ·have := f3 i (.inr (.inl h)); omega
  ·have := f3 i (.inr (.inr h)); omega
  ·omega).trans (x27.get i hi)⟩, hjl, ?_, ?_, ?_, fun i h => ?_, fun i h => ?_, fun i h => ?_⟩
 ·rw [take_rowU (by omega)]
  refine (G7.upd u712 fun i _ h => ⟨?_, fun h2 => by rw [isB_slice] at h2; rcases h with h | h | h <;> first | omega | (have := i3 i (.inr (.inl h)); omega) | (have := i3 i (.inr (.inr h)); omega)⟩).sub fun i _ h => ?_
  ·rcases h with h | h | h
   ·exact .inl (.inr (.inl h))
   ·exact .inl (.inr (.inr h))
   ·exact .inr (.inr h)
  ·refine .inr (.inl ?_)
   rcases h with h | h | h <;> (rw [isB_slice] at h; omega)
 ·rw [take_rowU (by omega)]
  refine (G10.upd u1012 fun i _ h => ⟨?_, fun h2 => by rw [isB_slice] at h2; rcases h with h | h <;> first | omega | (have := i3 i (.inr (.inr h)); omega)⟩).sub fun i _ h => ?_
  ·rcases h with h | h
   ·exact .inr (.inr (.inl h))
   ·exact .inr (.inr (.inr (.inr h)))
  ·rcases h with h | h | h
   ·rw [isB_slice] at h; exact .inl h
   ·rw [isB_slice] at h; exact .inr (.inr (.inr (.inl (by omega))))
   ·rw [isB_slice] at h; exact .inr (.inr (.inr (.inl (by omega))))
 ·rw [hpj, List.map_append]
  refine G12.sub fun i _ h => ?_
  rcases h with h | h | h
  ·rw [isB_slice] at h; exact .inl h
  ·rw [isB_slice] at h; exact .inr (.inl h)
  ·rw [isB_slice] at h; exact .inr (.inr (.inr (by omega)))
 ·rcases h with h | h | h <;> (rw [isB_slice] at h; omega)
 ·rw [isB_slice] at h
  exact ⟨fun h2 => by rw [isB_slice] at h2; omega, fun h2 => by rw [isB_slice] at h2; omega⟩
 ·rw [isB_slice] at h
  exact fun h2 => by rw [isB_slice] at h2; omega
end
end Go.Proofs.YtncmoaggkdlkhaaGreat.Cm
