/-
  The clean machine, and what the law's functions do in it: part L of this claim's own texts. No conditions.
-/
import Derived.Test.YtncmoaggkdlkhaaGreatCmJ
namespace Go.Proofs.YtncmoaggkdlkhaaGreat.Cm
open Go.RowKit Go.IntWalk
attribute [local irreducible] Heap.set Heap.new Heap.kill Heap.get Heap.room Cal WP
theorem lkD {α : Type} [DecidableEq α] {kt : KT} {f : α → CVal} (E : KeyE kt f) {x : α} {L : List (α × CVal)} {zero v : CVal} {K : CVal → Prop} (e : (lookA x L).getD zero = v) (k : K v) : LKN kt zero false (f x) (mapE f L) K := by
 subst e
 cases h : lookA x L with
 | none => rw [h] at k; exact lkNF E h k
 | some v => rw [h] at k; exact lkF E h k
theorem GSl.self {α : Type} {Z : Nat → Prop} {E : El α} {h : Heap} {v : CVal} {L : List α} (s : GSl Z E h v L) : GSl (fun i => Z i ∨ isB v i) E h v L := by
 obtain ⟨s1, cs, s2, s3⟩ := s
 exact ⟨s1, cs, s2, fun j hj => E.sub (fun i _ h => h.elim id .inr) (s3 j hj)⟩
theorem PV.newW {h₀ : Heap} {Z : Nat → Prop} {h h2 : Heap} {p : Nat} {S : AS} {vT vA vS vl : CVal} {mH mC : Nat} {HL : List ((Int × Int) × CVal)} {CL : List (Int × CVal)} {W' : List (Int × List Int)} (P : PV h₀ Z h p S vT vA vS mH mC HL CL) (u : Upd (isB vS) h h2) (f : ∀ b, isB vl b → h.next ≤ b) (l : GSl Z askE h2 vl W') :
 PV h₀ (fun i => Z i ∨ isB vl i) (h2.set p (.cells [vT, .bool S.cl, .int .u32 1, .int .i32 0, .int .u32 0, vA, .map mH, .map mC, vl] true none)) p { S with W := W' } vT vA vl mH mC HL CL := by
 have zl := P.zl
 have l2 := u.le
 have hs : ∀ i, Z i → ¬ isB vl i := fun i hi h => by have := f i h; have := zl i hi; omega
 have hg : ∀ i, (i = mH ∨ i = mC ∨ isB vA i) → Z i ∧ ¬ isB vS i ∧ i ≠ p := fun i hi => by
  rcases hi with rfl | rfl | hi
  ·exact ⟨P.zh, fun h => (P.n3 _ h).2.1 rfl, Ne.symm P.n1.1⟩
  ·exact ⟨P.zc, fun h => (P.n3 _ h).2.2 rfl, Ne.symm P.n1.2.1⟩
  ·exact ⟨P.za i hi, (P.n2 i hi).2.2.2, (P.n2 i hi).1⟩
 have hget : ∀ i, (i = mH ∨ i = mC ∨ isB vA i) → (h2.set p (.cells [vT, .bool S.cl, .int .u32 1, .int .i32 0, .int .u32 0, vA, .map mH, .map mC, vl] true none)).get i = h.get i := fun i hi => (Heap.get_set_ne _ _ _ _ (hg i hi).2.2).trans (u.get i (zl i (hg i hi).1) (hg i hi).2.1)
 have u2 : Upd (fun i => Z i ∨ isB vl i) h (h2.set p (.cells [vT, .bool S.cl, .int .u32 1, .int .i32 0, .int .u32 0, vA, .map mH, .map mC, vl] true none)) := Upd.set (u.sub fun i _ h => .inl (P.zs i h)) (.inl (.inl P.zp))
 have r : ∀ {v : CVal} {L : List Int}, RSl Z intE h v L → RSl (fun i => Z i ∨ isB vl i) intE (h2.set p (.cells [vT, .bool S.cl, .int .u32 1, .int .i32 0, .int .u32 0, vA, .map mH, .map mC, vl] true none)) v L := fun s => (s.sub fun i hi h => h.elim id fun h => by have := f i h; omega).upd u2
 refine ⟨.inl P.zp, .inl P.zh, .inl P.zc, fun b hb => .inl (P.za b hb), fun b hb => .inr hb, fun i hi => ?_, P.n1, fun b hb => ?_, fun b hb => ⟨fun e => hs b (by rw [e]; exact P.zp) hb, fun e => hs b (by rw [e]; exact P.zh) hb, fun e => hs b (by rw [e]; exact P.zc) hb⟩, Heap.set_at rfl, r P.T, P.A.frame u2.le fun i o hi g _ => (hget i (.inr (.inr hi))).trans g, P.H.of_get (hget mH (.inl rfl)), P.C.of_get (hget mC (.inr (.inl rfl))), l.self.rgl.upd (S := fun i => i = p) (Upd.set (Upd.refl _ _) (.inl rfl)) fun i _ e => by rw [e]; exact ⟨.inl P.zp, hs p P.zp⟩, P.hk, P.hr, P.hv, P.ck, fun k hk => ?_⟩
 ·rw [Heap.next_set]
  rcases hi with hi | hi
  ·have := zl i hi; omega
  ·exact l.1 i hi
 ·obtain ⟨a, b', c, _⟩ := P.n2 b hb
  exact ⟨a, b', c, hs b (P.za b hb)⟩
 ·obtain ⟨w, e, s⟩ := P.cv k hk
  exact ⟨w, e, r s⟩
theorem PV.fin {h₀ : Heap} {Z F Z1 F1 Z2 : Nat → Prop} {h h1 h2 : Heap} {p : Nat} {S' : AS} {vT vA vS' : CVal} {mH mC : Nat} {HL : List ((Int × Int) × CVal)} {CL : List (Int × CVal)} (gr : Grow h Z F h1 Z1 F1) (fz : ∀ i, F1 i → Z1 i) (u : Upd F1 h1 h2) (P : PV h₀ Z2 h2 p S' vT vA vS' mH mC HL CL) (W : GSlW Z2 askE h2 vS' S'.W) (ho : ∀ i, (i = p ∨ i = mH ∨ i = mC ∨ isB vA i) → F1 i) (zz : ∀ i, Z1 i → Z2 i) (z2 : ∀ i, Z2 i → Z1 i ∨ h1.next ≤ i) (f : ∀ b, isB vS' b → F1 b ∨ h1.next ≤ b) :
 Grow h Z F h2 Z2 (fun i => F1 i ∨ (Z2 i ∧ h1.next ≤ i)) ∧ PF Z2 h2 (fun i => F1 i ∨ (Z2 i ∧ h1.next ≤ i)) p S' := by
 refine ⟨gr.trans ⟨u, zz, fun _ h => .inl h, fun i h => (z2 i h).imp id fun h2 => ⟨.inr ⟨h, h2⟩, h2⟩, fun i h => h.imp id fun h => h.2⟩, P.pf W (fun i h => ?_) fun i h => h.elim (fun h => zz i (fz i h)) fun h => h.1⟩
 rcases h with h | h | h | h | h
 ·exact .inl (ho i (.inl h))
 ·exact .inl (ho i (.inr (.inl h)))
 ·exact .inl (ho i (.inr (.inr (.inl h))))
 ·exact .inl (ho i (.inr (.inr (.inr h))))
 ·exact (f i h).imp id fun h2 => ⟨P.zs i h, h2⟩
section
variable {Z F : Nat → Prop} {h : Heap} {p : Nat} {S : AS} {x : Int} {Q : CVal → Heap → Prop}
set_option maxHeartbeats 1000000 in
theorem askQ_cal {vu : CVal} {u : List Int} (P : PQ Z h F p S) (G : GoodS S) (ru : RSl Z intE h vu u) (lu : u.length ≤ 1000000000)
 (k : ∀ v h' Z' F', Grow h Z F h' Z' F' → PF Z' h' F' p (askS S x u).1 → RIn h' v (askS S x u).2.1 → (∀ b, isB v b → h.next ≤ b) → Q (.tuple [v, .int .i64 (askS S x u).2.2]) h') : Cal tt 35 [.ptr p 0, .int .i64 x, vu] h Q := by
 refine Cal.run rfl rfl rfl rfl ?_
 have ou := ru.one
 have t6 := G.t6
 have p32 := G.p32
 have wl := G.wl
 (repeat' first | refine go ?_ | refine idxS_ fun _ _ _ => ?_ | refine sp (fun _ => ?_) fun _ => ?_ | fail)
 refine CALLN.of (inQ_cal P t6 fun h1 Z1 F1 gr1 P1 => ?_)
 obtain ⟨h₀, vT, vA, vS, mH, mC, HL, CL, P2, W1, hF⟩ := P1.e
 have ru1 := gr1.rsl P.fz ru
 cases hk : posI S.P x with
 | none =>
   rw [decide_eq_false (posI_mem.1 hk)]
   rw [show askS S x u = (S, [], 3) by rw [askS, hk]] at k
   (repeat' first | refine go ?_ | refine idxS_ fun _ _ _ => ?_ | refine sp (fun _ => ?_) fun _ => ?_ | fail)
   exact k _ _ _ _ gr1 P1 (.inl ⟨rfl, rfl⟩) fun b hb => (isB_nil hb).elim
 | some kk =>
 have hxP := posI_notin hk
 rw [decide_eq_true hxP]
 have k1 := (posI_at hk).1
 have k2 : kk < S.H.length := by rw [G.hl]; exact k1
 have k3 : kk < S.C.length := by rw [G.cl]; exact k1
 have hRm := rowU_mem k2
 have lR := (G.h _ hRm).1
 have g1 := P2.g
 (repeat' first | refine go ?_ | refine idxS_ fun _ _ _ => ?_ | refine sp (fun _ => ?_) fun _ => ?_ | fail)
 refine CALLN.of (are_cal P2 ru1.rin lu ?_)
 rw [rowOk_int (m := S.T.length) rfl]
 cases hu : rowOk S.T.length u
 ·rw [show askS S x u = (S, [], 1) by simp only [askS, hk, hu]; rfl] at k
  (repeat' first | refine go ?_ | refine idxS_ fun _ _ _ => ?_ | refine sp (fun _ => ?_) fun _ => ?_ | fail)
  exact k _ _ _ _ gr1 P1 (.inl ⟨rfl, rfl⟩) fun b hb => (isB_nil hb).elim
 obtain ⟨q1, q2⟩ := rowOk_split hu
 (repeat' first | refine go ?_ | refine idxS_ fun _ _ _ => ?_ | refine sp (fun _ => ?_) fun _ => ?_ | fail)
 refine CALLN.of (of_cal fun b h2 x2 b1 b2 gb => ?_)
 have x2 : Exd h1 h2 := x2
 have gb : h2.get b = _ := gb
 have b2 : b < h2.next := b2
 have P3 := P2.exd x2
 have g3 := P3.g
 have o3 := P3.asks.one
 (repeat' first | refine go ?_ | refine idxS_ fun _ _ _ => ?_ | refine sp (fun _ => ?_) fun _ => ?_ | fail)
 refine CALLN.of (hasAsk_cal P3.asks (by omega) b2 gb fun h3 x3 => ?_)
 have x3 : Exd h2 h3 := x3
 have x13 := x2.trans x3
 clear x2 x3
 have P4 := P2.exd x13
 have g4 := P4.g
 have ru4 := ru1.exd x13
 cases hw : posW S.W x with
 | some w =>
   rw [show askS S x u = (S, [], 4) by simp only [askS, hk, hu, hw]; rfl] at k
   (repeat' first | refine go ?_ | refine idxS_ fun _ _ _ => ?_ | refine sp (fun _ => ?_) fun _ => ?_ | fail)
   exact k _ _ _ _ (gr1.trans (Grow.exd x13)) (P1.exd x13) (.inl ⟨rfl, rfl⟩) fun b hb => (isB_nil hb).elim
 | none =>
 have G2 := G.ask hxP hu hw
 have zl1 := P2.zl
 have ho : ∀ i, (i = p ∨ i = mH ∨ i = mC ∨ isB vA i) → F1 i := fun i h => hF i (by
  rcases h with h | h | h | h
  ·exact .inl h
  ·exact .inr (.inl h)
  ·exact .inr (.inr (.inl h))
  ·exact .inr (.inr (.inr (.inl h))))
 have hoS : ∀ i, isB vS i → F1 i := fun i h => hF i (.inr (.inr (.inr (.inr h))))
 have l13 := x13.le
 cases hcl : S.cl
 ·rw [show askS S x u = ((scanS { S with W := S.W ++ [(x, u)] }).1, (scanS { S with W := S.W ++ [(x, u)] }).2, 0) by simp only [askS, hk, hu, hw, hcl]; simp] at k
  rw [hcl] at g4
  (repeat' first | refine go ?_ | refine idxS_ fun _ _ _ => ?_ | refine sp (fun _ => ?_) fun _ => ?_ | fail)
  refine CALLN.of (cloneW_cal ru4.rin lu fun vc h5 x5 s5 => ?_)
  have x5 : Exd h3 h5 := x5
  have s5 : WSl h3 h5 vc u := s5
  have l5 := x5.le
  have oc := s5.one
  obtain ⟨N5, hN5⟩ : ∃ N, h5.next = N := ⟨_, rfl⟩
  have P5 := P4.exd x5
  have x56 : Exd h5 (h5.new (.cells [.int .i64 x, vc] true none)) := Exd.new (Exd.refl _)
  have src : srcC (h5.new (.cells [.int .i64 x, vc] true none)) 2 (.slice N5 0 1 1) = some (1, [.int .i64 x, vc]) := src_one (by exact get_) rfl rfl
  have he : askE.ok (fun i => Z1 i ∨ isB vS i) (h5.new (.cells [.int .i64 x, vc] true none)) [.int .i64 x, vc] (x, u) := npE.ok (p := (x, u)) ((s5.rsl fun i h => h.elim (fun h => P4.zl i h) fun h => Nat.lt_of_lt_of_le (W1.1.1 i h) l13).exd x56)
  obtain ⟨h6, e6, u6, n6, G6⟩ := (W1.1.exd (x13.trans (x5.trans x56))).push1 (bytes := 32) (a := (x, u)) (N := N5 + 1) src (by omega) he (by rw [Heap.next_new, hN5])
  have P7 := P5.newW (x56.upd.trans u6) (fun b hb => by rw [isB_slice] at hb; omega) G6
  have hp5 := P5.lt
  have g5 := P5.g
  have g6 : h6.get p = _ := (u6.get p (by exact lt_) fun h => (P5.n3 p h).1 rfl).trans (x56.skip P5.lt P5.g)
  (repeat' first | refine go ?_ | (refine SOMEN.mk e6 ?_) | refine idxS_ fun _ _ _ => ?_ | refine sp (fun _ => ?_) fun _ => ?_ | fail)
  refine CALLN.of (scanB_cal P7 G2 fun v h8 vS' HL8 u8 P8 W8 f8 r8 b8 => ?_)
  have ov := r8.one
  (repeat' first | refine go ?_ | refine idxS_ fun _ _ _ => ?_ | refine sp (fun _ => ?_) fun _ => ?_ | fail)
  have b8 : ∀ b, isB v b → h6.next ≤ b := fun b hb => by have := b8 b hb; rw [Heap.next_set] at this; exact this
  have f8 : ∀ b, isB vS' b → h6.next ≤ b := fun b hb => by have := f8 b hb; rw [Heap.next_set] at this; exact this
  have uF : Upd F1 h1 h8 := ((x13.trans x5).upd.trans ((x56.upd.trans u6).sub fun i _ h => hoS i h)).trans ((Upd.set (Upd.refl _ _) (.inl (ho p (.inl rfl)))).trans (u8.sub fun i _ h => ho i (by
   rcases h with h | h | h
   ·exact .inl h
   ·exact .inr (.inr (.inr h))
   ·exact .inr (.inl h))))
  obtain ⟨gr9, P9⟩ := PV.fin gr1 P1.fz uF P8 W8 ho (fun i h => .inl (.inl h)) (fun i h => by
   rcases h with (h | h) | h
   ·exact .inl h
   ·rw [isB_slice] at h; exact .inr (by omega)
   ·have := f8 i h; exact .inr (by omega)) fun b hb => .inr (by have := f8 b hb; omega)
  exact k v h8 _ _ gr9 P9 r8 fun b hb => by have := b8 b hb; have := gr1.u.le; omega
 ·rw [hcl] at g4
  obtain ⟨w, ew, rw'⟩ := P4.cv kk k1
  rw [(posI_at hk).2] at ew
  have ow := rw'.one
  have lC := (rowOk_split (G.c _ (rowU_mem k3))).1
  obtain ⟨st, gm, sm, nm⟩ := P4.C
  (repeat' first | refine go ?_ | (refine lkF KeyE.int ew ?_) | (refine rw'.lenS ?_) | refine idxS_ fun _ _ _ => ?_ | refine sp (fun _ => ?_) fun _ => ?_ | fail)
  obtain ⟨stH, gmH, smH, nmH⟩ := P4.H
  have rC := rw'.rin
  have rU := ru4.rin
  have hlk : ∀ j : Nat, (lookA (x, (j : Int)) HL).getD (.int .i64 0) = .int .i64 (atU (rowU S.H kk) j) := fun j => by rw [P4.look, P4.hv x j (by omega), hAt, hk]; rfl
  have bR := fun c => G.atH hRm c
  have bu := fun c => mayU_atU q2 c
  refine loopC (fun j : Nat => [(0, .ptr p 0), (1, .int .i64 x), (2, vu), (37, w), (38, .int .i64 (rowU S.C kk).length), (39, .int .i64 j)]) (fun j h' => h' = h3 ∧ j ≤ S.T.length ∧ ∀ q, q < j → atU (rowU S.H kk) q + atU u q ≤ atU (rowU S.C kk) q) (fun j => S.T.length - j) 0 ⟨rfl, rfl, rfl, rfl, rfl, rfl, trivial⟩ ⟨rfl, Nat.zero_le _, fun q hq => absurd hq (Nat.not_lt_zero _)⟩ ?_
  rintro j ρ h' ⟨rfl, hj, hle⟩
  have gj : ∀ R : List Int, R.getD (j : Int).toNat 0 = atU R j := fun R => by rw [Int.toNat_natCast]; rfl
  by_cases hjl : j < S.T.length
  rotate_left
  ·have hf : fitsU (addU (rowU S.H kk) u) (rowU S.C kk) = true := fitsU_iff.2 ⟨by rw [addU_len]; omega, fun q hq => by rw [addU_len] at hq; rw [atU_add hq]; exact hle q (by omega)⟩
   rw [show askS S x u = ((scanS { S with W := S.W ++ [(x, u)] }).1, (scanS { S with W := S.W ++ [(x, u)] }).2, 0) by simp only [askS, hk, hu, hw, hcl, hf]; simp] at k
   (repeat' first | refine go ?_ | refine idxS_ fun _ _ _ => ?_ | refine sp (fun _ => ?_) fun _ => ?_ | fail)
   refine CALLN.of (cloneW_cal ru4.rin lu fun vc h5 x5 s5 => ?_)
   have x5 : Exd h' h5 := x5
   have s5 : WSl h' h5 vc u := s5
   have l5 := x5.le
   have oc := s5.one
   obtain ⟨N5, hN5⟩ : ∃ N, h5.next = N := ⟨_, rfl⟩
   have P5 := P4.exd x5
   have x56 : Exd h5 (h5.new (.cells [.int .i64 x, vc] true none)) := Exd.new (Exd.refl _)
   have src : srcC (h5.new (.cells [.int .i64 x, vc] true none)) 2 (.slice N5 0 1 1) = some (1, [.int .i64 x, vc]) := src_one (by exact get_) rfl rfl
   have he : askE.ok (fun i => Z1 i ∨ isB vS i) (h5.new (.cells [.int .i64 x, vc] true none)) [.int .i64 x, vc] (x, u) := npE.ok (p := (x, u)) ((s5.rsl fun i h => h.elim (fun h => P4.zl i h) fun h => Nat.lt_of_lt_of_le (W1.1.1 i h) l13).exd x56)
   obtain ⟨h6, e6, u6, n6, G6⟩ := (W1.1.exd (x13.trans (x5.trans x56))).push1 (bytes := 32) (a := (x, u)) (N := N5 + 1) src (by omega) he (by rw [Heap.next_new, hN5])
   have P7 := P5.newW (x56.upd.trans u6) (fun b hb => by rw [isB_slice] at hb; omega) G6
   have hp5 := P5.lt
   have g5 := P5.g
   have g6 : h6.get p = _ := (u6.get p (by exact lt_) fun h => (P5.n3 p h).1 rfl).trans (x56.skip P5.lt P5.g)
   (repeat' first | refine go ?_ | (refine SOMEN.mk e6 ?_) | refine idxS_ fun _ _ _ => ?_ | refine sp (fun _ => ?_) fun _ => ?_ | fail)
   refine CALLN.of (scanB_cal P7 G2 fun v h8 vS' HL8 u8 P8 W8 f8 r8 b8 => ?_)
   have ov := r8.one
   (repeat' first | refine go ?_ | refine idxS_ fun _ _ _ => ?_ | refine sp (fun _ => ?_) fun _ => ?_ | fail)
   have b8 : ∀ b, isB v b → h6.next ≤ b := fun b hb => by have := b8 b hb; rw [Heap.next_set] at this; exact this
   have f8 : ∀ b, isB vS' b → h6.next ≤ b := fun b hb => by have := f8 b hb; rw [Heap.next_set] at this; exact this
   have uF : Upd F1 h1 h8 := ((x13.trans x5).upd.trans ((x56.upd.trans u6).sub fun i _ h => hoS i h)).trans ((Upd.set (Upd.refl _ _) (.inl (ho p (.inl rfl)))).trans (u8.sub fun i _ h => ho i (by
    rcases h with h | h | h
    ·exact .inl h
    ·exact .inr (.inr (.inr h))
    ·exact .inr (.inl h))))
   obtain ⟨gr9, P9⟩ := PV.fin gr1 P1.fz uF P8 W8 ho (fun i h => .inl (.inl h)) (fun i h => by
    rcases h with (h | h) | h
    ·exact .inl h
    ·rw [isB_slice] at h; exact .inr (by omega)
    ·have := f8 i h; exact .inr (by omega)) fun b hb => .inr (by have := f8 b hb; omega)
   exact k v h8 _ _ gr9 P9 r8 fun b hb => by have := b8 b hb; have := gr1.u.le; omega
  have b1 := bR j
  have b2 := bu j
  by_cases hc : atU (rowU S.H kk) j + atU u j ≤ atU (rowU S.C kk) j
  rotate_left
  ·have hf : fitsU (addU (rowU S.H kk) u) (rowU S.C kk) = false := by
    cases h : fitsU (addU (rowU S.H kk) u) (rowU S.C kk)
    ·rfl
    ·have := (fitsU_iff.1 h).2 j (by rw [addU_len]; omega)
     rw [atU_add (by omega)] at this
     omega
   rw [show askS S x u = (S, [], 35) by simp only [askS, hk, hu, hw, hcl, hf]; simp] at k
   (repeat' first | refine go ?_ | ((refine RIn.idxS rC (by omega) fun b o gg => ?_; rw [gj] at gg)) | ((refine RIn.idxS rU (by omega) fun b o gg => ?_; rw [gj] at gg)) | (refine lkD KeyE.pair (x := (x, (j : Int))) (hlk j) ?_) | (refine look_map KeyE.pair (x := (x, (j : Int))) rfl rfl P4.H (hlk j) ?_) | refine idxS_ fun _ _ _ => ?_ | refine sp (fun _ => ?_) fun _ => ?_ | fail)
   exact k _ _ _ _ (gr1.trans (Grow.exd x13)) (P1.exd x13) (.inl ⟨rfl, rfl⟩) fun b hb => (isB_nil hb).elim
  (repeat' first | refine go ?_ | ((refine RIn.idxS rC (by omega) fun b o gg => ?_; rw [gj] at gg)) | ((refine RIn.idxS rU (by omega) fun b o gg => ?_; rw [gj] at gg)) | (refine lkD KeyE.pair (x := (x, (j : Int))) (hlk j) ?_) | (refine look_map KeyE.pair (x := (x, (j : Int))) rfl rfl P4.H (hlk j) ?_) | refine idxS_ fun _ _ _ => ?_ | refine sp (fun _ => ?_) fun _ => ?_ | fail)
  exact ⟨rfl, j + 1, ⟨rfl, rfl, rfl, rfl, rfl, rfl, trivial⟩, ⟨rfl, hjl, fun q hq => by
   rcases Nat.lt_or_ge q j with h1 | h1
   ·exact hle q h1
   ·obtain rfl : q = j := by omega
    exact hc⟩, by omega⟩
end
section
variable {Z F : Nat → Prop} {h : Heap} {p : Nat} {S : AS} {x : Int} {Q : CVal → Heap → Prop}
set_option maxHeartbeats 1000000 in
theorem giveQ_cal {vu : CVal} {u : List Int} (P : PQ Z h F p S) (G : GoodS S) (ru : RSl Z intE h vu u) (lu : u.length ≤ 1000000000)
 (k : ∀ v h' Z' F', Grow h Z F h' Z' F' → PF Z' h' F' p (giveS S x u).1 → RIn h' v (giveS S x u).2.1 → (∀ b, isB v b → h.next ≤ b) → Q (.tuple [v, .int .i64 (giveS S x u).2.2]) h') : Cal tt 36 [.ptr p 0, .int .i64 x, vu] h Q := by
 refine Cal.run rfl rfl rfl rfl ?_
 have ou := ru.one
 have t6 := G.t6
 have p32 := G.p32
 (repeat' first | refine go ?_ | refine idxS_ fun _ _ _ => ?_ | refine sp (fun _ => ?_) fun _ => ?_ | fail)
 refine CALLN.of (inQ_cal P t6 fun h1 Z1 F1 gr1 P1 => ?_)
 obtain ⟨h₀, vT, vA, vS, mH, mC, HL, CL, P2, W1, hF⟩ := P1.e
 have ru1 := gr1.rsl P.fz ru
 cases hk : posI S.P x with
 | none =>
   rw [decide_eq_false (posI_mem.1 hk)]
   rw [show giveS S x u = (S, [], 3) by rw [giveS, hk]] at k
   (repeat' first | refine go ?_ | refine idxS_ fun _ _ _ => ?_ | refine sp (fun _ => ?_) fun _ => ?_ | fail)
   exact k _ _ _ _ gr1 P1 (.inl ⟨rfl, rfl⟩) fun b hb => (isB_nil hb).elim
 | some kk =>
 have hxP := posI_notin hk
 rw [decide_eq_true hxP]
 have k1 := (posI_at hk).1
 have k2 : kk < S.H.length := by rw [G.hl]; exact k1
 have hRm := rowU_mem k2
 have lR := (G.h _ hRm).1
 have g1 := P2.g
 (repeat' first | refine go ?_ | refine idxS_ fun _ _ _ => ?_ | refine sp (fun _ => ?_) fun _ => ?_ | fail)
 refine CALLN.of (are_cal P2 ru1.rin lu ?_)
 rw [rowOk_int (m := S.T.length) rfl]
 cases hu : rowOk S.T.length u
 ·rw [show giveS S x u = (S, [], 1) by simp only [giveS, hk, hu]; rfl] at k
  (repeat' first | refine go ?_ | refine idxS_ fun _ _ _ => ?_ | refine sp (fun _ => ?_) fun _ => ?_ | fail)
  exact k _ _ _ _ gr1 P1 (.inl ⟨rfl, rfl⟩) fun b hb => (isB_nil hb).elim
 obtain ⟨q1, q2⟩ := rowOk_split hu
 (repeat' first | refine go ?_ | refine idxS_ fun _ _ _ => ?_ | refine sp (fun _ => ?_) fun _ => ?_ | fail)
 refine CALLN.of (heldB_cal P2 G fun v h2 x2 Gv vb => ?_)
 have x2 : Exd h1 h2 := x2
 rw [rowOf, hk] at Gv
 have Gv : GSl (fun _ => False) intE h2 v (rowU S.H kk) := Gv
 have ov := Gv.one
 (repeat' first | refine go ?_ | refine idxS_ fun _ _ _ => ?_ | refine sp (fun _ => ?_) fun _ => ?_ | fail)
 refine CALLN.of (fits_cal (ru1.exd x2).rin Gv.ints lu (by omega) fun h3 x3 => ?_)
 have x13 := x2.trans x3
 clear x2 x3
 have P4 := P2.exd x13
 cases hf : fitsU u (rowU S.H kk)
 ·rw [show giveS S x u = (S, [], 36) by simp only [giveS, hk, hu, hf]; rfl] at k
  (repeat' first | refine go ?_ | refine idxS_ fun _ _ _ => ?_ | refine sp (fun _ => ?_) fun _ => ?_ | fail)
  exact k _ _ _ _ (gr1.trans (Grow.exd x13)) (P1.exd x13) (.inl ⟨rfl, rfl⟩) fun b hb => (isB_nil hb).elim
 have G5 := G.give k2 hu hf
 rw [show giveS S x u = ((scanS { S with A := addU S.A u, H := S.H.set kk (subU (rowU S.H kk) u) }).1, (scanS { S with A := addU S.A u, H := S.H.set kk (subU (rowU S.H kk) u) }).2, 0) by simp only [giveS, hk, hu, hf]; rfl] at k
 have lA := G.a
 (repeat' first | refine go ?_ | refine idxS_ fun _ _ _ => ?_ | refine sp (fun _ => ?_) fun _ => ?_ | fail)
 refine CALLN.of (move_cal P4 hk k2 (n := S.T.length) lA lR (ru1.exd x13) q1 t6 (.inr rfl) (fun c => by have := G.a0 c; have := G.atA c; omega) (fun c => by have := G.atH hRm c; omega) (fun c => mayU_atU q2 c) fun h5 HL5 u5 P5 => ?_)
 rw [moved_add lA lR] at P5
 (repeat' first | refine go ?_ | refine idxS_ fun _ _ _ => ?_ | refine sp (fun _ => ?_) fun _ => ?_ | fail)
 refine CALLN.of (scanB_cal P5 G5 fun v h8 vS' HL8 u8 P8 W8 f8 r8 b8 => ?_)
 have ov := r8.one
 have zl1 := P2.zl
 have l13 := x13.le
 have l5 := u5.le
 have ho : ∀ i, (i = p ∨ i = mH ∨ i = mC ∨ isB vA i) → F1 i := fun i h => hF i (by
  rcases h with h | h | h | h
  ·exact .inl h
  ·exact .inr (.inl h)
  ·exact .inr (.inr (.inl h))
  ·exact .inr (.inr (.inr (.inl h))))
 have f8 : ∀ b, isB vS' b → h5.next ≤ b := f8
 have uF : Upd F1 h1 h8 := (x13.upd.trans (u5.sub fun i _ h => ho i (h.elim (fun h => .inr (.inr (.inr h))) fun h => .inr (.inl h)))).trans (u8.sub fun i _ h => ho i (by
  rcases h with h | h | h
  ·exact .inl h
  ·exact .inr (.inr (.inr h))
  ·exact .inr (.inl h)))
 obtain ⟨gr9, P9⟩ := PV.fin gr1 P1.fz uF P8 W8 ho (fun i h => .inl h) (fun i h => h.imp id fun h => by have := f8 i h; omega) fun b hb => .inr (by have := f8 b hb; omega)
 (repeat' first | refine go ?_ | refine idxS_ fun _ _ _ => ?_ | refine sp (fun _ => ?_) fun _ => ?_ | fail)
 have b8 : ∀ b, isB v b → h5.next ≤ b := b8
 exact k v h8 _ _ gr9 P9 r8 fun b hb => by have := b8 b hb; have := gr1.u.le; omega
end
theorem GSlW.clear1 {α : Type} {Z : Nat → Prop} {E : El α} {h : Heap} {v : CVal} {L : List α} {N b o c l j : Nat} {ρ : Env} {X : CX} {zero : List CVal} {a : α} {K : CVal → Heap → Prop} (s : GSlW Z E h v L) (hb : isB v b) (hj : j < L.length) (hx : X.on N ρ = .slice b o l c) (hl1 : l = 1) (ho : o = j * E.sz) (he : E.ok (fun i => Z i ∨ isB v i) h zero a)
 (k : ∀ h', GSlW Z E h' v (L.set j a) → Upd (isB v) h h' → h'.next = h.next → K .un h') : OPN N (.clear zero X) ρ h K := by
 subst hl1
 have st := GSlW.store (K := fun h' => K .un h') s hb hj rfl ho he k
 obtain ⟨g, hl, ho', kk⟩ := st
 exact OPN.clearS hx (by omega) g (by rw [Nat.one_mul, hl]; exact ho') (by rw [show repC 1 zero = zero by simp [repC]]; exact kk)
theorem GSlW.upto {α : Type} {Z : Nat → Prop} {E : El α} {h : Heap} {L M : List α} {b n k : Nat} (s : GSlW Z E h (.slice b 0 n n) L) (hk : k ≤ n) (hM : M = L.take k) (hn : L.length = n) : RGl Z E h (.slice b 0 k n) M := by
 subst hM hn
 obtain ⟨⟨s1, cs, s2, s3⟩, _⟩ := s
 rcases s2 with ⟨e1, _⟩ | ⟨b', wr, opn, e, _, g, _⟩
 ·simp at e1
 ·simp only [CVal.slice.injEq, and_true] at e
  obtain ⟨rfl, _⟩ := e
  have hl : (L.take k).length = k := by rw [List.length_take]; omega
  refine .inr ⟨b, 0, _, by rw [hl], by rw [hl]; exact hk, s1 b (isB_slice.2 rfl), .inr ⟨cs, wr, opn, g, fun j hj => ?_⟩⟩
  rw [List.getElem_take]
  exact E.sub (fun i _ h => h.imp id fun h => by rw [isB_slice] at h ⊢; exact h) (s3 j (by omega))
theorem GSl.pairC {α : Type} {Z : Nat → Prop} {E : El α} {h : Heap} {M : List (Int × List α)} {b n j : Nat} {p : Int} {us : List α} (s : GSl Z (npE E) h (.slice b 0 n n) M) (e : M[j]? = some (p, us)) : ∃ w, RSl (fun i => Z i ∨ isB (.slice b 0 n n) i) E h w us ∧ AtN h b (0 + j * 2) [.int .i64 p, w] := by
 obtain ⟨hj, e⟩ := List.getElem?_eq_some_iff.1 e
 obtain ⟨s1, cs, s2, s3⟩ := s
 rcases s2 with ⟨e1, _⟩ | ⟨b', wr, opn, e1, _, g, _⟩
 ·simp at e1
 ·simp only [CVal.slice.injEq, true_and] at e1
  obtain ⟨rfl, _⟩ := e1
  have r := s3 j hj
  have hl : (chunk (npE E).sz 0 cs j).length = 2 := (npE E).len r
  generalize hx : chunk (npE E).sz 0 cs j = xs at r hl
  obtain ⟨c, d, e2, e3, w, e4, r⟩ := r
  rw [e] at e3 r
  have e3 : c = [.int .i64 p] := e3
  subst e3 e4
  refine ⟨w, r, s1 b (isB_slice.2 rfl), cs, wr, opn, g, ?_⟩
  rw [e2] at hx
  exact hx
def downL (W : List (Int × List Int)) (i j : Nat) (L : List (Int × List Int)) : Prop := L.length = W.length ∧ ∀ p, p < W.length → L[p]? = if i ≤ p ∧ p + 1 < j then W[p + 1]? else W[p]?
section
variable {Z : Nat → Prop} {h : Heap} {Q : CVal → Heap → Prop}
set_option maxHeartbeats 1000000 in
theorem delAsk_cal {vs : CVal} {W : List (Int × List Int)} {pid : Int} {b : Nat} (G : GSlW Z askE h vs W) (nd : (W.map (·.1)).Nodup) (wl : W.length ≤ 1000) (hb : b < h.next) (hv : ¬ isB vs b) (g : h.get b = some (.cells [.int .i64 pid] true none))
 (k : ∀ v h', Upd (isB vs) h h' → RGl Z askE h' v (cutW W pid) → (∀ i, isB v i → isB vs i) → Q v h') : Cal tt 69 [vs, .func 87 [] [.ptr b 0]] h Q := by
 refine Cal.run rfl rfl rfl rfl ?_
 have ov := G.1.one
 (repeat' first | refine go ?_ | refine idxS_ fun _ _ _ => ?_ | refine sp (fun _ => ?_) fun _ => ?_ | fail)
 refine CALLN.of (idxAsk_cal (Z := fun _ => False) ((G.1.sub fun _ _ f => f.elim).read fun _ _ f => f) wl hb g fun h1 x1 => ?_)
 have G1 := G.exd x1
 cases hw : posW W pid with
 | none =>
   have pn : posN (none : Option Nat) = -1 := rfl
   rw [show cutW W pid = W by rw [cutW, hw]] at k
   (repeat' first | refine go ?_ | refine idxS_ fun _ _ _ => ?_ | refine sp (fun _ => ?_) fun _ => ?_ | fail)
   exact k _ _ x1.upd G1.1.rgl fun _ h => h
 | some w =>
 have pn : posN (some w) = (w : Int) := rfl
 have hwl := (posI_at hw).1
 rw [List.length_map] at hwl
 rw [show cutW W pid = W.eraseIdx w by rw [cutW, hw]] at k
 rcases G.1.head with ⟨rfl, rfl⟩ | ⟨b0, rfl, hb0⟩
 ·simp at hwl
 have ib : isB (.slice b0 0 W.length W.length) b0 := isB_slice.2 rfl
 (repeat' first | refine go ?_ | refine idxS_ fun _ _ _ => ?_ | refine sp (fun _ => ?_) fun _ => ?_ | fail)
 refine loopC (fun y : Nat × List (Int × List Int) => [(0, .slice b0 0 W.length W.length), (1, .func 87 [] [.ptr b 0]), (5, .int .i64 (y.1 : Int)), (6, .int .i64 ((y.1 + 1 : Nat) : Int))]) (fun y h' => Upd (isB (.slice b0 0 W.length W.length)) h1 h' ∧ w ≤ y.1 ∧ y.1 + 1 ≤ W.length ∧ downL W w (y.1 + 1) y.2 ∧ GSlW Z askE h' (.slice b0 0 W.length W.length) y.2) (fun y => W.length - y.1) (w, W) ⟨rfl, rfl, rfl, rfl, trivial⟩ ⟨Upd.refl _ _, Nat.le_refl _, hwl, ⟨rfl, fun p _ => by rw [if_neg (by omega)]⟩, G1⟩ ?_
 rintro ⟨i, L⟩ ρ h' ⟨u, hj1, hj2, ⟨lL, hL⟩, GL⟩
 simp only at hj1 hj2 lL hL GL ⊢
 have l1 := x1.le
 have lu := u.le
 have gb : h'.get b = some (.cells [.int .i64 pid] true none) := (u.get b (by omega) hv).trans (x1.skip hb g)
 have hw' := posI_at hw
 by_cases hjl : i + 1 < W.length
 rotate_left
 ·
  have ei : i + 1 = W.length := by omega
  (repeat' first | refine go ?_ | (refine SOMEN.mk (bounds1 (p := i) rfl (by omega) (by omega)) ?_) | (refine SOMEN.mk (bounds0 (q := i) rfl (by omega)) ?_) | refine idxS_ fun _ _ _ => ?_ | refine sp (fun _ => ?_) fun _ => ?_ | fail)
  have he0 : askE.ok (fun j => Z j ∨ isB (.slice b0 0 W.length W.length) j) h' [.int .i64 0, .nilSlice] (0, []) := npE.ok (p := (0, [])) .nil
  refine GSlW.clear1 GL ib (j := i) (a := (0, [])) (by omega) rfl (by show W.length - i = 1; omega) (by show 0 + i * 2 = i * 2; omega) he0 fun h2 G2 u2 n2 => ?_
  (repeat' first | refine go ?_ | (refine SOMEN.mk (bounds0 (q := i) rfl (by omega)) ?_) | refine idxS_ fun _ _ _ => ?_ | refine sp (fun _ => ?_) fun _ => ?_ | fail)
  refine k (.slice b0 0 i W.length) h2 (x1.upd.trans (u.trans u2)) (G2.upto (by omega) ?_ (by rw [List.length_set]; exact lL)) fun j hj => by rw [isB_slice] at hj ⊢; exact hj
  refine List.ext_getElem? fun p => ?_
  rw [List.getElem?_take, List.getElem?_eraseIdx]
  by_cases hp : p < i
  ·rw [if_pos hp, List.getElem?_set, if_neg (show ¬ i = p by omega), hL p (by omega)]
   by_cases h1 : p < w
   ·rw [if_pos h1, if_neg (show ¬ (w ≤ p ∧ p + 1 < i + 1) by omega)]
   ·rw [if_neg h1, if_pos (show w ≤ p ∧ p + 1 < i + 1 by omega)]
  ·rw [if_neg hp, if_neg (show ¬ p < w by omega), List.getElem?_eq_none (by omega)]
 obtain ⟨a, ea⟩ : ∃ a, W[i + 1]? = some a := ⟨_, List.getElem?_eq_getElem hjl⟩
 obtain ⟨q, us⟩ := a
 have eL : L[i + 1]? = some (q, us) := by rw [hL _ hjl, if_neg (by omega)]; exact ea
 have nq : q ≠ pid := fun e => by
  have h1 : (W.map (·.1))[i + 1]? = some q := by rw [List.getElem?_map, ea]; rfl
  have h2 : (W.map (·.1))[w]? = some q := by
   have := hw'.2
   rw [List.getD_eq_getElem?_getD, List.getElem?_eq_getElem (by rw [List.length_map]; omega)] at this
   rw [List.getElem?_eq_getElem (by rw [List.length_map]; omega), e]
   simpa using this
  have := (List.getElem?_inj (by rw [List.length_map]; exact hjl) nd).1 (h1.trans h2.symm)
  omega
 obtain ⟨N1, hN1⟩ : ∃ N, h'.next = N := ⟨_, rfl⟩
 obtain ⟨w1, r1, a1⟩ := GL.1.pairC eL
 have ow := r1.one
 have e1 : ((i + 1 : Nat) : Int) = (i : Int) + 1 := by omega
 (repeat' first | refine go ?_ | (refine AtN.get a1 rfl ?_) | refine idxS_ fun _ _ _ => ?_ | refine sp (fun _ => ?_) fun _ => ?_ | fail)
 refine CALLN.of (ofC_cal (b := b) (pid := pid) ow (by exact lt_) (by exact get_) fun h2 x2 => ?_)
 rw [decide_eq_false nq]
 have gN1 : h2.get N1 = some (.cells [.int .i64 q, w1] true none) := x2.skip (by exact lt_) (by exact get_)
 have nN1 : N1 < h2.next := by have := x2.le; simp only [Heap.next_set, Heap.next_new] at this; omega
 have xx : Exd h' h2 := Exd.trans (by exact exd_) x2
 clear x2
 have GL2 := GL.exd xx
 have he : askE.ok (fun j => Z j ∨ isB (.slice b0 0 W.length W.length) j) h2 [.int .i64 q, w1] (q, us) := npE.ok (p := (q, us)) (r1.exd xx)
 (repeat' first | refine go ?_ | refine idxS_ fun _ _ _ => ?_ | refine sp (fun _ => ?_) fun _ => ?_ | fail)
 refine GSlW.store GL2 ib (j := i) (by omega) rfl (by show 0 + i * 2 = i * 2; omega) he fun h3 G3 u3 n3 => ?_
 (repeat' first | refine go ?_ | refine idxS_ fun _ _ _ => ?_ | refine sp (fun _ => ?_) fun _ => ?_ | fail)
 refine ⟨rfl, (i + 1, L.set i (q, us)), ⟨rfl, rfl, rfl, rfl, trivial⟩, ⟨u.trans (xx.upd.trans u3), by simp only; omega, by simp only; omega, ⟨by rw [List.length_set]; exact lL, fun p hp => ?_⟩, G3⟩, by simp only; omega⟩
 rw [List.getElem?_set]
 by_cases e : i = p
 ·subst e
  rw [if_pos rfl, if_pos (by omega), if_pos (by omega), ea]
 ·rw [if_neg e, hL p hp]
  by_cases h1 : w ≤ p ∧ p + 1 < i + 1
  ·rw [if_pos h1, if_pos (by omega)]
  ·rw [if_neg h1, if_neg (by omega)]
end
theorem pairKeys_mapE : ∀ {HL : List ((Int × Int) × CVal)}, (∀ e ∈ HL, (∃ n : Int, e.2 = .int .i64 n) ∧ (-9223372036854775808 ≤ e.1.1 ∧ e.1.1 ≤ 9223372036854775807) ∧ -9223372036854775808 ≤ e.1.2 ∧ e.1.2 ≤ 9223372036854775807) → pairKeysC (mapE keyP HL) = some (HL.map (·.1))
 | [], _ => rfl
 | e :: HL, h => by
   have ih := pairKeys_mapE (HL := HL) fun n hn => h n (List.mem_cons_of_mem _ hn)
   obtain ⟨⟨n, e1⟩, h2⟩ := h e (List.mem_cons_self ..)
   show pairKeysC ((keyP e.1, e.2) :: mapE keyP HL) = _
   rw [e1]
   simp only [keyP, pairKeysC, ih]
   rw [if_pos h2]
   rfl
def gonH (x : Int) (HL : List ((Int × Int) × CVal)) : List ((Int × Int) × CVal) := HL.filter fun e => !(e.1.1 == x)
theorem strike_fst {x : Int} : ∀ {HL : List ((Int × Int) × CVal)} {bs : List Nat}, bs.length = HL.length → (strikeC x (mapE keyP HL) bs).map (·.1) = mapE keyP (gonH x HL)
 | [], _, _ => by simp [strikeC, mapE, gonH]
 | e :: HL, [], h => by simp at h
 | e :: HL, b :: bs, h => by
   have ih := strike_fst (x := x) (HL := HL) (bs := bs) (by simpa using h)
   have ep : isPid x (keyP e.1) = (e.1.1 == x) := rfl
   simp only [strikeC, mapE, gonH, List.map_cons, List.zip_cons_cons, List.filter_cons, ep] at ih ⊢
   cases e.1.1 == x
   ·simpa using ih
   ·simpa using ih
theorem strike_snd {x : Int} {es : List (CVal × CVal)} {bs : List Nat} (h : bs.length = es.length) : ((strikeC x es bs).map (·.2)).Sublist bs := by
 have := (List.filter_sublist (l := es.zip bs) (p := fun x_1 => !isPid x x_1.1.1)).map (·.2)
 rwa [List.map_snd_zip (by omega)] at this
theorem lookA_gonH {x : Int} {y : Int × Int} : ∀ {HL : List ((Int × Int) × CVal)}, lookA y (gonH x HL) = if y.1 = x then none else lookA y HL
 | [] => by simp [gonH, lookA, findA]
 | e :: HL => by
   have ih := lookA_gonH (x := x) (y := y) (HL := HL)
   rw [gonH] at ih ⊢
   rw [List.filter_cons]
   by_cases h : e.1.1 = x
   ·rw [if_neg (by simp [h]), ih, lookA_cons]
    by_cases hy : y.1 = x
    ·rw [if_pos hy, if_pos hy]
    ·rw [if_neg hy, if_neg hy, if_neg fun e1 => hy (by rw [e1]; exact h)]
   ·rw [if_pos (by simpa using h), lookA_cons, lookA_cons, ih]
    by_cases hy : y.1 = x
    ·rw [if_pos hy, if_neg (fun e1 => h (by rw [← e1]; exact hy)), if_pos hy]
    ·rw [if_neg hy, if_neg hy]
theorem delHeld_cal {h : Heap} {mH j : Nat} {x : Int} {HL : List ((Int × Int) × CVal)} {wr : Bool} {opn : Option Nat} {Q : CVal → Heap → Prop} (M : MapAt h mH keyP HL) (hl : HL.length ≤ 1000000) (hr : ∀ e ∈ HL, (∃ n : Int, e.2 = .int .i64 n) ∧ (-9223372036854775808 ≤ e.1.1 ∧ e.1.1 ≤ 9223372036854775807) ∧ -9223372036854775808 ≤ e.1.2 ∧ e.1.2 ≤ 9223372036854775807) (gb : h.get j = some (.cells [.int .i64 x] wr opn))
 (k : ∀ h', (∀ i, i ≠ mH → h'.get i = h.get i) → h'.next = h.next → MapAt h' mH keyP (gonH x HL) → Q .un h') : Cal tt 70 [.map mH, .func 71 [] [.ptr j 0]] h Q := by
 obtain ⟨st, g, s, nd⟩ := M
 obtain ⟨bs, c, rfl, s1, s2, s3⟩ := s.ok
 have l1 : bs.length = (mapE keyP HL).length := by rw [mapE_length]; exact s1
 have hf := strike_fst (x := x) (HL := HL) (bs := bs) s1
 refine Cal.prim (p := delP 71) (v := .un) (h' := h.set mH (.map (mapE keyP (gonH x HL)) true (some ((strikeC x (mapE keyP HL) bs).map (·.2), c)))) rfl ?_ (k _ (fun i hi => Heap.get_set_ne _ _ _ _ hi) (Heap.next_set ..) ⟨_, Heap.set_at rfl, ?_, ?_⟩)
 ·simp only [delP, if_true, gb, List.getElem?_cons_zero, g, pairKeys_mapE hr]
  rw [if_pos ⟨stOk_iff.2 ⟨l1, s2, s3, by rw [mapE_length]; exact hl⟩, nd⟩, hf]
 ·have sl := strike_snd (x := x) l1
  refine ⟨_, _, rfl, ?_, s2.sublist sl, fun b hb => s3 b (sl.subset hb)⟩
  have := congrArg List.length hf
  rw [List.length_map, mapE_length] at this
  rw [List.length_map]
  exact this
 ·exact nd.sublist (List.filter_sublist.map _)
theorem delA_keys {x : Int} : ∀ {CL : List (Int × CVal)}, (delA x CL).map (·.1) = (CL.map (·.1)).erase x
 | [] => by simp [delA, findA]
 | e :: CL => by
   rw [delA_cons, List.map_cons]
   by_cases h : x = e.1
   ·subst h
    rw [if_pos rfl, List.erase_cons_head]
   ·rw [if_neg h, List.erase_cons_tail (by simpa using Ne.symm h), List.map_cons, delA_keys]
theorem erase_getD {P : List Int} {kk j : Nat} (h : j ≠ kk) : (P.eraseIdx kk).getD (if j < kk then j else j - 1) 0 = P.getD j 0 := by
 rw [List.getD_eq_getElem?_getD, List.getD_eq_getElem?_getD, List.getElem?_eraseIdx]
 by_cases h1 : j < kk
 ·rw [if_pos h1, if_pos h1]
 ·rw [if_neg h1, if_neg (by omega)]
  congr 2
  omega
theorem erase_rowU {M : List (List Int)} {kk j : Nat} (h : j ≠ kk) : rowU (M.eraseIdx kk) (if j < kk then j else j - 1) = rowU M j := by
 rw [rowU, rowU, List.getD_eq_getElem?_getD, List.getD_eq_getElem?_getD, List.getElem?_eraseIdx]
 by_cases h1 : j < kk
 ·rw [if_pos h1, if_pos h1]
 ·rw [if_neg h1, if_neg (by omega)]
  congr 2
  omega
section
variable {h₀ : Heap} {Z : Nat → Prop} {h h' h2 : Heap} {p : Nat} {S : AS} {vT vA vS vl : CVal} {mH mC : Nat} {HL : List ((Int × Int) × CVal)} {CL : List (Int × CVal)} {x : Int}
theorem PV.cutW {W' : List (Int × List Int)} (P : PV h₀ Z h p S vT vA vS mH mC HL CL) (u : Upd (isB vS) h h2) (hb : ∀ i, isB vl i → isB vS i) (l : RGl Z askE h2 vl W') :
 PV h₀ Z (h2.set p (.cells [vT, .bool S.cl, .int .u32 1, .int .i32 0, .int .u32 0, vA, .map mH, .map mC, vl] true none)) p { S with W := W' } vT vA vl mH mC HL CL := by
 have zl := P.zl
 have l2 := u.le
 have hg : ∀ i, (i = mH ∨ i = mC ∨ isB vA i) → Z i ∧ ¬ isB vS i ∧ i ≠ p := fun i hi => by
  rcases hi with rfl | rfl | hi
  ·exact ⟨P.zh, fun h => (P.n3 _ h).2.1 rfl, Ne.symm P.n1.1⟩
  ·exact ⟨P.zc, fun h => (P.n3 _ h).2.2 rfl, Ne.symm P.n1.2.1⟩
  ·exact ⟨P.za i hi, (P.n2 i hi).2.2.2, (P.n2 i hi).1⟩
 have hget : ∀ i, (i = mH ∨ i = mC ∨ isB vA i) → (h2.set p (.cells [vT, .bool S.cl, .int .u32 1, .int .i32 0, .int .u32 0, vA, .map mH, .map mC, vl] true none)).get i = h.get i := fun i hi => (Heap.get_set_ne _ _ _ _ (hg i hi).2.2).trans (u.get i (zl i (hg i hi).1) (hg i hi).2.1)
 have u2 : Upd Z h (h2.set p (.cells [vT, .bool S.cl, .int .u32 1, .int .i32 0, .int .u32 0, vA, .map mH, .map mC, vl] true none)) := Upd.set (u.sub fun i _ h => P.zs i h) (.inl P.zp)
 refine ⟨P.zp, P.zh, P.zc, P.za, fun b h => P.zs b (hb b h), fun i hi => by rw [Heap.next_set]; have := zl i hi; omega, P.n1, fun b h => ?_, fun b h => P.n3 b (hb b h), Heap.set_at rfl, P.T.upd u2, P.A.frame u2.le fun i o hi g _ => (hget i (.inr (.inr hi))).trans g, P.H.of_get (hget mH (.inl rfl)), P.C.of_get (hget mC (.inr (.inl rfl))), l.upd (S := fun i => i = p) (Upd.set (Upd.refl _ _) (.inl rfl)) fun i _ e => by rw [e]; exact ⟨P.zp, fun h => (P.n3 p (hb p h)).1 rfl⟩, P.hk, P.hr, P.hv, P.ck, fun k hk => ?_⟩
 ·obtain ⟨a, b', c, d⟩ := P.n2 b h
  exact ⟨a, b', c, fun h => d (hb b h)⟩
 ·obtain ⟨w, e, s⟩ := P.cv k hk
  exact ⟨w, e, s.upd u2⟩
theorem PV.gone {kk : Nat} (P : PV h₀ Z h p S vT vA vS mH mC HL CL) (hk : posI S.P x = some kk) (ps : S.P.Pairwise (· < ·)) (e1 : ∀ i, i ≠ mH → i ≠ mC → h'.get i = h.get i) (e2 : h'.next = h.next) (MH : MapAt h' mH keyP (gonH x HL)) (MC : MapAt h' mC keyI (delA x CL)) :
 PV h₀ Z h' p { S with P := S.P.eraseIdx kk, H := S.H.eraseIdx kk, C := S.C.eraseIdx kk } vT vA vS mH mC (gonH x HL) (delA x CL) := by
 obtain ⟨k1, k2⟩ := posI_at hk
 have u : Upd (fun i => i = mH ∨ i = mC) h h' := ⟨by omega, fun i _ hi => e1 i (fun h => hi (.inl h)) fun h => hi (.inr h)⟩
 have uz : Upd Z h h' := u.sub fun i _ e => e.elim (fun e => by rw [e]; exact P.zh) fun e => by rw [e]; exact P.zc
 have ps' : (S.P.eraseIdx kk).Pairwise (· < ·) := ps.sublist (List.eraseIdx_sublist ..)
 have lE : (S.P.eraseIdx kk).length = S.P.length - 1 := by rw [List.length_eraseIdx, if_pos k1]
 have nk : ∀ {y : Int} {j : Nat}, posI S.P y = some j → y ≠ x → j ≠ kk := fun h hy e => by subst e; exact hy (posI_inj h hk)
 have pos : ∀ {y : Int} {j : Nat}, posI S.P y = some j → y ≠ x → posI (S.P.eraseIdx kk) y = some (if j < kk then j else j - 1) := fun {y j} h hy => by
  have hj := posI_at h
  have hn := nk h hy
  have e := erase_getD (P := S.P) hn
  rw [hj.2] at e
  have := posI_self ps' (j := if j < kk then j else j - 1) (by rw [lE]; split <;> omega)
  rwa [e] at this
 have nox : x ∉ S.P.eraseIdx kk := fun hx => by
  obtain ⟨i, hi, ne, e⟩ := List.mem_eraseIdx_iff_getElem.1 hx
  refine ne ((List.getElem?_inj (l := S.P) hi (ps.imp fun h => by omega)).1 ?_)
  rw [List.getElem?_eq_getElem hi, List.getElem?_eq_getElem k1, e]
  rw [List.getD_eq_getElem?_getD, List.getElem?_eq_getElem k1] at k2
  simpa using k2.symm
 have inP : ∀ {y : Int}, y ∈ S.P → y ≠ x → y ∈ S.P.eraseIdx kk := fun {y} hy hn => by
  obtain ⟨j, hj⟩ := posI_of hy
  exact posI_notin (pos hj hn)
 refine ⟨P.zp, P.zh, P.zc, P.za, P.zs, fun i hi => by rw [e2]; exact P.zl i hi, P.n1, P.n2, P.n3, (e1 p P.n1.1 P.n1.2.1).trans P.g, P.T.upd uz, P.A.frame (by omega) fun i o hb g _ => (e1 i (P.n2 i hb).2.1 (P.n2 i hb).2.2.1).trans g, MH, MC, P.W.upd u fun i _ e => ?_, fun e he => P.hk e (List.mem_filter.1 he).1, fun e he => ?_, fun pid c hc => ?_, ?_, fun k' hk' => ?_⟩
 ·rcases e with e | e
  ·rw [e]; exact ⟨P.zh, fun h => (P.n3 mH h).2.1 rfl⟩
  ·rw [e]; exact ⟨P.zc, fun h => (P.n3 mC h).2.2 rfl⟩
 ·obtain ⟨h1, h2⟩ := List.mem_filter.1 he
  obtain ⟨r1, r2⟩ := P.hr e h1
  exact ⟨inP r1 (by simpa using h2), r2⟩
 ·rw [look0, lookA_gonH, hAt]
  show _ = match posI (S.P.eraseIdx kk) pid with | some k => atU (rowU (S.H.eraseIdx kk) k) c.toNat | none => 0
  by_cases hp : pid = x
  ·subst hp
   rw [if_pos rfl, posI_mem.2 nox]
  ·rw [if_neg hp]
   have hv := P.hv pid c hc
   rw [look0, hAt] at hv
   rw [hv]
   cases hq : posI S.P pid with
   | none => rw [posI_mem.2 fun h => posI_mem.1 hq ((List.eraseIdx_sublist ..).subset h)]
   | some j => rw [pos hq hp]; simp only; rw [erase_rowU (nk hq hp)]
 ·rw [delA_keys]
  have h1 := P.ck.erase x
  have h2 := perm_erase k1 (List.Perm.refl S.P)
  rw [List.getD_eq_getElem?_getD, List.getElem?_eq_getElem k1] at k2
  rw [show S.P[kk] = x from k2] at h2
  exact h1.trans h2
 ·have hk' : k' < (S.P.eraseIdx kk).length := hk'
  rw [lE] at hk'
  show ∃ w, lookA ((S.P.eraseIdx kk).getD k' 0) (delA x CL) = some w ∧ RSl Z intE h' w (rowU (S.C.eraseIdx kk) k')
  obtain ⟨j, hj, hj2, hj3⟩ : ∃ j, j ≠ kk ∧ (if j < kk then j else j - 1) = k' ∧ j < S.P.length := by
   by_cases h1 : k' < kk
   ·exact ⟨k', by omega, by rw [if_pos h1], by omega⟩
   ·exact ⟨k' + 1, by omega, by rw [if_neg (by omega)]; omega, by omega⟩
  rw [← hj2, erase_getD hj, erase_rowU hj, lookA_del P.C.nd]
  obtain ⟨w, e, s⟩ := P.cv j hj3
  refine ⟨w, ?_, s.upd uz⟩
  rw [if_neg fun h => hj ?_]
  ·exact e
  ·have := posI_self ps hj3
   rw [h, hk] at this
   simpa using this.symm
end
theorem nodup_subA {α : Type} [BEq α] [LawfulBEq α] : ∀ {l m : List α}, l.Nodup → (∀ x ∈ l, x ∈ m) → l.length ≤ m.length
 | [], _, _, _ => Nat.zero_le _
 | x :: l, m, nd, h => by
   obtain ⟨n1, n2⟩ := List.nodup_cons.1 nd
   have hx := h x (List.mem_cons_self ..)
   have := nodup_subA (l := l) (m := m.erase x) n2 fun y hy => (List.mem_erase_of_ne (fun e => n1 (by rw [← e]; exact hy))).2 (h y (List.mem_cons_of_mem _ hy))
   rw [List.length_erase_of_mem hx] at this
   have := List.length_pos_of_mem hx
   rw [List.length_cons]
   omega
section
variable {Z F : Nat → Prop} {h : Heap} {p : Nat} {S : AS} {x : Int} {Q : CVal → Heap → Prop}
theorem PV.hlen {h₀ : Heap} {vT vA vS : CVal} {mH mC : Nat} {HL : List ((Int × Int) × CVal)} {CL : List (Int × CVal)} (P : PV h₀ Z h p S vT vA vS mH mC HL CL) (p32 : S.P.length ≤ 32) : HL.length ≤ 1000000 := by
 have := nodup_subA (l := HL.map (·.1)) (m := S.P.flatMap fun a => [(a, 0), (a, 1), (a, 2), (a, 3), (a, 4), (a, 5)]) P.H.nd fun k hk => by
  obtain ⟨e, he, rfl⟩ := List.mem_map.1 hk
  obtain ⟨r1, r2, r3⟩ := P.hr e he
  refine List.mem_flatMap.2 ⟨_, r1, ?_⟩
  obtain ⟨⟨a, b⟩, v⟩ := e
  simp only at r2 r3 ⊢
  have : b = 0 ∨ b = 1 ∨ b = 2 ∨ b = 3 ∨ b = 4 ∨ b = 5 := by omega
  rcases this with h | h | h | h | h | h <;> subst h <;> simp
 rw [List.length_map, List.length_flatMap] at this
 have e : (S.P.map fun a => [(a, (0 : Int)), (a, 1), (a, 2), (a, 3), (a, 4), (a, 5)].length) = S.P.map fun _ => 6 := by
  refine List.map_congr_left fun a _ => rfl
 rw [e, List.map_const', List.sum_replicate_nat] at this
 omega
set_option maxHeartbeats 2000000 in
theorem leaveQ_cal (P : PQ Z h F p S) (G : GoodS S)
 (k : ∀ v h' Z' F', Grow h Z F h' Z' F' → PF Z' h' F' p (leaveS S x).1 → RIn h' v (leaveS S x).2.1 → (∀ b, isB v b → h.next ≤ b) → Q (.tuple [v, .bool (leaveS S x).2.2]) h') : Cal tt 37 [.ptr p 0, .int .i64 x] h Q := by
 obtain ⟨N, hN⟩ : ∃ N, h.next = N := ⟨_, rfl⟩
 refine Cal.run rfl rfl rfl rfl ?_
 have t6 := G.t6
 have p32 := G.p32
 have wl := G.wl
 have x0 : Exd h (h.new (.cells [.int .i64 x] true none)) := Exd.new (Exd.refl _)
 have P0 := P.exd x0
 have gN : (h.new (.cells [.int .i64 x] true none)).get N = some (.cells [.int .i64 x] true none) := by exact get_
 have nN : N < (h.new (.cells [.int .i64 x] true none)).next := by exact lt_
 have NZ : ¬ F N := fun hF => by have := P.zl N (P.fz N hF); omega
 (repeat' first | refine go ?_ | refine idxS_ fun _ _ _ => ?_ | refine sp (fun _ => ?_) fun _ => ?_ | fail)
 refine CALLN.of (inQ_cal P0 t6 fun h1 Z1 F1 gr1 P1 => ?_)
 have gr0 : Grow h Z F h1 Z1 F1 := (Grow.exd x0).trans gr1
 have gN1 : h1.get N = some (.cells [.int .i64 x] true none) := (gr1.u.get N nN NZ).trans gN
 have nN1 : N < h1.next := Nat.lt_of_lt_of_le nN gr1.u.le
 have NZ1 : ¬ F1 N := fun h => by
  rcases gr1.fn N h with h | h
  ·exact NZ h
  ·omega
 obtain ⟨h₀, vT, vA, vS, mH, mC, HL, CL, P2, W1, hF⟩ := P1.e
 cases hk : posI S.P x with
 | none =>
   rw [decide_eq_false (posI_mem.1 hk)]
   rw [show leaveS S x = (S, [], false) by rw [leaveS, hk]] at k
   (repeat' first | refine go ?_ | refine idxS_ fun _ _ _ => ?_ | refine sp (fun _ => ?_) fun _ => ?_ | fail)
   exact k _ _ _ _ gr0 P1 (.inl ⟨rfl, rfl⟩) fun b hb => (isB_nil hb).elim
 | some kk =>
 have hxP := posI_notin hk
 rw [decide_eq_true hxP]
 rw [leaveS_some hk] at k
 have k1 := (posI_at hk).1
 have k2 : kk < S.H.length := by rw [G.hl]; exact k1
 have hRm := rowU_mem k2
 have lR := (G.h _ hRm).1
 have lA := G.a
 have g1 := P2.g
 (repeat' first | refine go ?_ | refine idxS_ fun _ _ _ => ?_ | refine sp (fun _ => ?_) fun _ => ?_ | fail)
 refine CALLN.of (heldB_cal P2 G fun v h2 x2 Gv vb => ?_)
 have x2 : Exd h1 h2 := x2
 rw [rowOf, hk] at Gv
 have Gv : GSl (fun _ => False) intE h2 v (rowU S.H kk) := Gv
 have vb : ∀ b, isB v b → h1.next ≤ b := vb
 have ov := Gv.one
 have P3 := P2.exd x2
 have gN2 := x2.skip nN1 gN1
 have nN2 := Nat.lt_of_lt_of_le nN1 x2.le
 have rv : RSl Z1 intE h2 v (rowU S.H kk) := (Gv.ints_any : GSl Z1 intE h2 v (rowU S.H kk)).read fun b hb h => by have := vb b hb; have := P2.zl b h; omega
 (repeat' first | refine go ?_ | refine idxS_ fun _ _ _ => ?_ | refine sp (fun _ => ?_) fun _ => ?_ | fail)
 refine CALLN.of (move_cal P3 hk k2 (n := S.T.length) lA lR rv lR t6 (.inr rfl) (fun c => by have := G.a0 c; have := G.atA c; omega) (fun c => by have := G.atH hRm c; omega) (fun c => by have := G.atH hRm c; omega) fun h5 HL5 u5 P5 => ?_)
 rw [moved_add lA lR] at P5
 have hoS : ∀ i, ftP p vA vS mH mC i → F1 i := hF
 have h5F : ∀ i, (isB vA i ∨ i = mH) → F1 i := fun i h => h.elim (fun h => hF i (.inr (.inr (.inr (.inl h))))) fun h => hF i (.inr (.inl h))
 have gN5 := (u5.get N nN2 fun h => NZ1 (h5F N h)).trans gN2
 have nN5 := Nat.lt_of_lt_of_le nN2 u5.le
 have l2 := x2.le
 have l5 := u5.le
 have W5 : GSlW Z1 askE h5 vS S.W := (W1.exd x2).upd u5 fun i _ h => ⟨P1.fz i (h5F i h), fun hb => by
  rcases h with h | h
  ·exact (P2.n2 i h).2.2.2 hb
  ·exact (P2.n3 i hb).2.1 h⟩
 have g5 := P5.g
 (repeat' first | refine go ?_ | refine idxS_ fun _ _ _ => ?_ | refine sp (fun _ => ?_) fun _ => ?_ | fail)
 refine CALLN.of (of_cal fun b h6 x6 b1 b2 gb => ?_)
 have x6 : Exd h5 h6 := x6
 have gb : h6.get b = _ := gb
 have b2 : b < h6.next := b2
 have b1 : h5.next ≤ b := b1
 have P6 := P5.exd x6
 have g6 := P6.g
 have gN6 := x6.skip nN5 gN5
 have nN6 := Nat.lt_of_lt_of_le nN5 x6.le
 have o6 := W5.1.one
 (repeat' first | refine go ?_ | refine idxS_ fun _ _ _ => ?_ | refine sp (fun _ => ?_) fun _ => ?_ | fail)
 refine CALLN.of (delAsk_cal (W5.exd x6) G.wd (by omega) b2 (fun h => by have := W5.1.1 b h; omega) gb fun vl h7 u7 R7 s7 => ?_)
 have u7 : Upd (isB vS) h6 h7 := u7
 have nvS : ∀ i, isB vS i → F1 i := fun i h => hF i (.inr (.inr (.inr (.inr h))))
 have gN7 : h7.get N = some (.cells [.int .i64 x] true none) := (u7.get N nN6 fun h => NZ1 (nvS N h)).trans gN6
 have P7 := P6.cutW u7 s7 R7
 have hp6 := P6.lt
 have g7 := (u7.get p hp6 fun h => (P6.n3 p h).1 rfl).trans g6
 have ol := R7.one
 have nNp : N ≠ p := fun e => NZ1 (e ▸ hF p (.inl rfl))
 have nNC : N ≠ mC := fun e => NZ1 (e ▸ hF mC (.inr (.inr (.inl rfl))))
 have nNH : N ≠ mH := fun e => NZ1 (e ▸ hF mH (.inr (.inl rfl)))
 have l7 := u7.le
 (repeat' first | refine go ?_ | refine idxS_ fun _ _ _ => ?_ | refine sp (fun _ => ?_) fun _ => ?_ | fail)
 refine OPN.delete KeyE.int (x := x) rfl rfl P7.C fun h8 e8 n8 MC8 => ?_
 have gN8 := (e8 N nNC).trans ((Heap.get_set_ne _ _ _ _ nNp).trans gN7)
 have g8 := (e8 p P7.n1.2.1).trans P7.g
 (repeat' first | refine go ?_ | refine idxS_ fun _ _ _ => ?_ | refine sp (fun _ => ?_) fun _ => ?_ | fail)
 refine CALLN.of (delHeld_cal (x := x) (P7.H.of_get (e8 mH P7.n1.2.2)) (P7.hlen p32) (fun e he => ⟨(P7.hk e he).elim fun n h => ⟨n, h.1⟩, by have := G.p1 _ (P7.hr e he).1; omega, by have := (P7.hr e he).2; omega⟩) gN8 fun h9 e9 n9 MH9 => ?_)
 have n8' : h8.next = h7.next := n8.trans (Heap.next_set ..)
 have n9' : h9.next = h8.next := n9
 have P9 := P7.gone hk G.ps (fun i h1 h2 => (e9 i h1).trans (e8 i h2)) (by rw [n9', n8', Heap.next_set]) MH9 (MC8.of_get (e9 mC (Ne.symm P7.n1.2.2)))
 simp only [List.eraseIdx_set_eq] at P9
 have P9 : PV h₀ Z1 h9 p (goneS S x kk) vT vA vl mH mC _ _ := P9
 have g9 := P9.g
 (repeat' first | refine go ?_ | refine idxS_ fun _ _ _ => ?_ | refine sp (fun _ => ?_) fun _ => ?_ | fail)
 refine CALLN.of (scanB_cal P9 (G.gone hk) fun v h10 vS' HL10 u10 P10 W10 f10 r10 b10 => ?_)
 have ov := r10.one
 (repeat' first | refine go ?_ | refine idxS_ fun _ _ _ => ?_ | refine sp (fun _ => ?_) fun _ => ?_ | fail)
 have l6 := x6.le
 have f10 : ∀ b, isB vS' b → h9.next ≤ b := f10
 have ho : ∀ i, (i = p ∨ i = mH ∨ i = mC ∨ isB vA i) → F1 i := fun i h => hF i (by
  rcases h with h | h | h | h
  ·exact .inl h
  ·exact .inr (.inl h)
  ·exact .inr (.inr (.inl h))
  ·exact .inr (.inr (.inr (.inl h))))
 have u79 : Upd F1 h7 h9 := ⟨by omega, fun i hi hs => (e9 i fun e => hs (ho i (.inr (.inl e)))).trans ((e8 i fun e => hs (ho i (.inr (.inr (.inl e))))).trans (Heap.get_set_ne _ _ _ _ fun e => hs (ho i (.inl e))))⟩
 have uF : Upd F1 h1 h10 := ((((x2.upd.trans (u5.sub fun i _ h => h5F i h)).trans x6.upd).trans (u7.sub fun i _ h => nvS i h)).trans u79).trans (u10.sub fun i _ h => ho i (by
  rcases h with h | h | h
  ·exact .inl h
  ·exact .inr (.inr (.inr h))
  ·exact .inr (.inl h)))
 obtain ⟨gr9, P11⟩ := PV.fin gr0 P1.fz uF P10 W10 ho (fun i h => .inl h) (fun i h => h.imp id fun h => by have := f10 i h; omega) fun b hb => .inr (by have := f10 b hb; omega)
 have b10 : ∀ b, isB v b → h9.next ≤ b := b10
 have := u79.le
 have := gr0.u.le
 exact k v h10 _ _ gr9 P11 r10 fun b hb => by have := b10 b hb; omega
end
theorem ins_get {α : Type} {L : List α} {n : Nat} {x : α} (hn : n ≤ L.length) (i : Nat) : (L.take n ++ x :: L.drop n)[i]? = if i < n then L[i]? else if i = n then some x else L[i - 1]? := by
 have hl : (L.take n).length = n := by rw [List.length_take]; omega
 by_cases h : i < n
 ·rw [if_pos h, List.getElem?_append_left (by omega), List.getElem?_take, if_pos h]
 ·rw [if_neg h, List.getElem?_append_right (by omega), hl]
  by_cases e : i = n
  ·rw [if_pos e, e, Nat.sub_self]; rfl
  ·rw [if_neg e, show i - n = (i - n - 1) + 1 by omega, List.getElem?_cons_succ, List.getElem?_drop]
   congr 1
   omega
section
variable {h₀ : Heap} {Z : Nat → Prop} {h h' : Heap} {p : Nat} {S : AS} {vT vA vS w : CVal} {mH mC : Nat} {HL : List ((Int × Int) × CVal)} {CL : List (Int × CVal)} {x : Int} {u : List Int} {Q : CVal → Heap → Prop}
theorem PV.into {n : Nat} (P : PV h₀ Z h p S vT vA vS mH mC HL CL) (G : GoodS S) (hx : posI S.P x = none) (hn : n ≤ S.P.length) (ps' : (inS S x u n).P.Pairwise (· < ·)) (e1 : ∀ i, i ≠ mC → h'.get i = h.get i) (e2 : h'.next = h.next) (MC : MapAt h' mC keyI (setA x w CL)) (rw' : RSl Z intE h w u) :
 PV h₀ Z h' p (inS S x u n) vT vA vS mH mC HL (setA x w CL) := by
 have uu : Upd (fun i => i = mC) h h' := ⟨by omega, fun i _ hi => e1 i hi⟩
 have uz : Upd Z h h' := uu.sub fun i _ e => by rw [e]; exact P.zc
 have lH := G.hl
 have lC := G.cl
 have eP : ∀ i, (inS S x u n).P[i]? = if i < n then S.P[i]? else if i = n then some x else S.P[i - 1]? := ins_get hn
 have eH : ∀ i, (inS S x u n).H[i]? = if i < n then S.H[i]? else if i = n then some (ofJ S.T.length fun _ => 0) else S.H[i - 1]? := ins_get (by omega)
 have eC : ∀ i, (inS S x u n).C[i]? = if i < n then S.C[i]? else if i = n then some u else S.C[i - 1]? := ins_get (by omega)
 have lP : (inS S x u n).P.length = S.P.length + 1 := len_ins hn
 have sh : ∀ {j : Nat}, (inS S x u n).P[if j < n then j else j + 1]? = S.P[j]? ∧ (inS S x u n).H[if j < n then j else j + 1]? = S.H[j]? ∧ (inS S x u n).C[if j < n then j else j + 1]? = S.C[j]? := fun {j} => by
  rw [eP, eH, eC]
  by_cases h : j < n
  ·simp only [if_pos h, and_self]
  ·simp only [if_neg h, if_neg (show ¬ j + 1 < n by omega), if_neg (show ¬ j + 1 = n by omega), Nat.add_sub_cancel, and_self]
 have gd : ∀ {M M' : List (List Int)} {i j : Nat}, M[i]? = M'[j]? → rowU M i = rowU M' j := fun {M M' i j} e => by rw [rowU, rowU, List.getD_eq_getElem?_getD, List.getD_eq_getElem?_getD, e]
 have gp : ∀ {M M' : List Int} {i j : Nat}, M[i]? = M'[j]? → M.getD i 0 = M'.getD j 0 := fun {M M' i j} e => by rw [List.getD_eq_getElem?_getD, List.getD_eq_getElem?_getD, e]
 have pos : ∀ {y : Int} {j : Nat}, posI S.P y = some j → posI (inS S x u n).P y = some (if j < n then j else j + 1) := fun {y j} h => by
  obtain ⟨j1, j2⟩ := posI_at h
  have := posI_self ps' (j := if j < n then j else j + 1) (by rw [lP]; split <;> omega)
  rwa [gp sh.1, j2] at this
 have posx : posI (inS S x u n).P x = some n := by
  have := posI_self ps' (j := n) (by rw [lP]; omega)
  rwa [List.getD_eq_getElem?_getD, eP, if_neg (Nat.lt_irrefl _), if_pos rfl] at this
 have hnone : lookA x CL = none := by
  have := P.mem x
  cases h : lookA x CL with
  | none => rfl
  | some v => rw [h] at this; exact absurd (this.1 rfl) (posI_mem.1 hx)
 refine ⟨P.zp, P.zh, P.zc, P.za, P.zs, fun i hi => by rw [e2]; exact P.zl i hi, P.n1, P.n2, P.n3, (e1 p P.n1.2.1).trans P.g, P.T.upd uz, P.A.frame (by omega) fun i o hb g _ => (e1 i (P.n2 i hb).2.2.1).trans g, P.H.of_get (e1 mH P.n1.2.2), MC, P.W.upd uu fun i _ e => by rw [e]; exact ⟨P.zc, fun h => (P.n3 mC h).2.2 rfl⟩, P.hk, fun e he => ⟨mem_ins.2 (.inr (P.hr e he).1), (P.hr e he).2⟩, fun pid c hc => ?_, ?_, fun k' hk' => ?_⟩
 ·rw [P.hv pid c hc, hAt, hAt]
  by_cases hp : pid = x
  ·subst hp
   rw [hx, posx]
   simp only
   rw [show rowU (inS S pid u n).H n = ofJ S.T.length fun _ => 0 by rw [rowU, List.getD_eq_getElem?_getD, eH, if_neg (Nat.lt_irrefl _), if_pos rfl]; rfl]
   by_cases hj : c.toNat < S.T.length
   ·rw [atU_ofJ hj]
   ·rw [atU_out (by rw [ofJ_length]; exact hj)]
  ·cases hq : posI S.P pid with
   | none => rw [show posI (inS S x u n).P pid = none from posI_mem.2 fun h => (mem_ins.1 h).elim hp (posI_mem.1 hq)]
   | some j => rw [pos hq]; simp only; rw [gd sh.2.1]
 ·have h1 : (setA x w CL).map (·.1) = CL.map (·.1) ++ [x] := by
   unfold setA
   cases hf : findA x CL 0 with
   | none => simp
   | some q => simp [lookA, hf] at hnone
  rw [h1]
  refine (List.perm_append_comm.trans (P.ck.cons x)).trans ?_
  show (x :: S.P).Perm (S.P.take n ++ x :: S.P.drop n)
  refine List.Perm.trans ?_ List.perm_middle.symm
  rw [List.take_append_drop]
 ·by_cases h : k' = n
  ·subst h
   refine ⟨w, ?_, ?_⟩
   ·rw [List.getD_eq_getElem?_getD, eP, if_neg (Nat.lt_irrefl _), if_pos rfl, lookA_setA]
    exact if_pos rfl
   ·rw [show rowU (inS S x u k').C k' = u by rw [rowU, List.getD_eq_getElem?_getD, eC, if_neg (Nat.lt_irrefl _), if_pos rfl]; rfl]
    exact rw'.upd uz
  ·obtain ⟨j, hj, hj2⟩ : ∃ j, (if j < n then j else j + 1) = k' ∧ j < S.P.length := by
    by_cases h1 : k' < n
    ·exact ⟨k', if_pos h1, by omega⟩
    ·exact ⟨k' - 1, by rw [if_neg (by omega)]; omega, by rw [lP] at hk'; omega⟩
   obtain ⟨v, e, s⟩ := P.cv j hj2
   rw [← hj, gp sh.1, gd sh.2.2, lookA_setA]
   refine ⟨v, ?_, s.upd uz⟩
   rw [if_neg fun h => ?_]
   ·exact e
   ·refine posI_mem.1 hx ?_
    rw [← h, List.getD_eq_getElem?_getD, List.getElem?_eq_getElem hj2]
    exact List.getElem_mem hj2
end
section
variable {Z F : Nat → Prop} {h : Heap} {p : Nat} {S : AS} {x : Int} {Q : CVal → Heap → Prop}
theorem areN_cal {v vT : CVal} {u T : List Int} {cs : List CVal} {wr : Bool} {opn : Option Nat} (g : h.get p = some (.cells (vT :: cs) wr opn)) (rT : RSl Z intE h vT T) (ru : RIn h v u) (lu : u.length ≤ 1000000000) (k : Q (.bool (decide ((u.length : Int) = T.length) && mayU u)) h) : Cal tt 65 [.ptr p 0, v] h Q := by
 refine Cal.run rfl rfl rfl rfl ?_
 have ov := rT.one
 (repeat' first | refine go ?_ | (refine rT.lenS ?_) | (refine CALLN.of (is_cal ru lu ?_)) | refine idxS_ fun _ _ _ => ?_ | refine sp (fun _ => ?_) fun _ => ?_ | fail)
 exact k
theorem areQ_cal {v : CVal} {u : List Int} (P : PQ Z h F p S) (ru : RIn h v u) (lu : u.length ≤ 1000000000) (k : Q (.bool (rowOk S.T.length u)) h) : Cal tt 65 [.ptr p 0, v] h Q := by
 rcases P with P | P
 ·obtain ⟨_, _, _, _, _, _, _, _, P1, _, _⟩ := P.e
  exact areN_cal P1.g P1.T ru lu (by rw [rowOk_int (m := S.T.length) rfl]; exact k)
 ·obtain ⟨⟨v, T, e, g, r⟩, _, _, _⟩ := P
  have eT : S.T = T := by rw [e]; rfl
  rw [eT] at k
  exact areN_cal g r ru lu (by rw [rowOk_int (m := T.length) rfl]; exact k)
set_option maxHeartbeats 1000000 in
theorem admitQ_cal {vu : CVal} {u : List Int} (P : PQ Z h F p S) (G : GoodS S) (rs : RSl Z intE h vu u) (lu : u.length ≤ 1000000000) (hx64 : x ≤ 9223372036854775807)
 (k : ∀ h' Z' F', Grow h Z F h' Z' F' → PQ Z' h' F' p (admitS S x u).1 → (1 ≤ x → rowOk S.T.length u = true → PF Z' h' F' p (admitS S x u).1) → Q (.int .i64 (admitS S x u).2) h') : Cal tt 34 [.ptr p 0, .int .i64 x, vu] h Q := by
 refine Cal.run rfl rfl rfl rfl ?_
 have ou := rs.one
 have t6 := G.t6
 have p32 := G.p32
 by_cases hx1 : x < 1
 ·rw [show admitS S x u = (S, 1) by rw [admitS, if_pos (.inl hx1)]] at k
  (repeat' first | refine go ?_ | refine idxS_ fun _ _ _ => ?_ | refine sp (fun _ => ?_) fun _ => ?_ | fail)
  exact k _ _ _ (Grow.refl _ _ _) P fun h => by omega
 (repeat' first | refine go ?_ | refine idxS_ fun _ _ _ => ?_ | refine sp (fun _ => ?_) fun _ => ?_ | fail)
 refine CALLN.of (areQ_cal P rs.rin lu ?_)
 cases hu : rowOk S.T.length u
 ·rw [show admitS S x u = (S, 1) by rw [admitS, if_pos (.inr hu)]] at k
  (repeat' first | refine go ?_ | refine idxS_ fun _ _ _ => ?_ | refine sp (fun _ => ?_) fun _ => ?_ | fail)
  exact k _ _ _ (Grow.refl _ _ _) P fun _ h => by rw [hu] at h; simp at h
 have c1 : ¬ (x < 1 ∨ rowOk S.T.length u = false) := by rw [hu]; simpa using hx1
 obtain ⟨q1, q2⟩ := rowOk_split hu
 (repeat' first | refine go ?_ | refine idxS_ fun _ _ _ => ?_ | refine sp (fun _ => ?_) fun _ => ?_ | fail)
 refine CALLN.of (inQ_cal P t6 fun h1 Z1 F1 gr1 P1 => ?_)
 obtain ⟨h₀, vT, vA, vS, mH, mC, HL, CL, P2, W1, hF⟩ := P1.e
 have ru1 := gr1.rsl P.fz rs
 by_cases hxP : x ∈ S.P
 ·rw [decide_eq_true hxP]
  obtain ⟨kk, hk⟩ := posI_of hxP
  rw [show admitS S x u = (S, 4) by rw [admitS, if_neg c1, if_pos (by rw [hk]; rfl)]] at k
  (repeat' first | refine go ?_ | refine idxS_ fun _ _ _ => ?_ | refine sp (fun _ => ?_) fun _ => ?_ | fail)
  exact k _ _ _ gr1 (.inl P1) fun _ _ => P1
 rw [decide_eq_false hxP]
 have hk := posI_mem.2 hxP
 have c2 : ¬ (posI S.P x).isSome = true := by rw [hk]; simp
 have g2 := P2.g
 obtain ⟨st2, gC2, sC2, nC2⟩ := P2.C
 have lC : (mapE keyI CL).length = S.P.length := by rw [mapE_length]; have := P2.ck.length_eq; rwa [List.length_map] at this
 by_cases h32 : 32 ≤ S.P.length
 ·rw [show admitS S x u = (S, 1) by rw [admitS, if_neg c1, if_neg c2, if_pos h32]] at k
  (repeat' first | refine go ?_ | refine idxS_ fun _ _ _ => ?_ | refine sp (fun _ => ?_) fun _ => ?_ | fail)
  exact k _ _ _ gr1 (.inl P1) fun _ _ => P1
 obtain ⟨i1, _, _⟩ := takeW G.ps x
 by_cases c4 : S.cl = true ∧ fitsU u S.T = false
 ·rw [show admitS S x u = (S, 35) by rw [admitS, if_neg c1, if_neg c2, if_neg h32, if_pos c4]] at k
  rw [c4.1] at g2
  (repeat' first | refine go ?_ | refine idxS_ fun _ _ _ => ?_ | refine sp (fun _ => ?_) fun _ => ?_ | fail)
  refine CALLN.of (fits_cal ru1.rin P2.T.rin (by omega) (by omega) fun h2 x2 => ?_)
  rw [c4.2]
  (repeat' first | refine go ?_ | refine idxS_ fun _ _ _ => ?_ | refine sp (fun _ => ?_) fun _ => ?_ | fail)
  exact k _ _ _ (gr1.trans (Grow.exd x2)) (.inl (P1.exd x2)) fun _ _ => P1.exd x2
 have key := admitS_in (by omega) hu hk (by omega) c4 rfl
 have G' := G.admit (pid := x) (c := u) hx64
 rw [key] at k G'
 cases hcl : S.cl
 ·rw [hcl] at g2
  obtain ⟨N, hN⟩ : ∃ N, h1.next = N := ⟨_, rfl⟩
  obtain ⟨w, h3, ea, x3, GW, hw, _, _⟩ := append_copy (bytes := 8) ru1 hN (by omega)
  have ow := GW.1.one
  have P5 := P2.exd x3
  have hp1 := P2.lt
  have g5 := P5.g
  have rw5 : RSl Z1 intE h3 w u := GW.1.read fun b hb h => by have := hw b hb; have := P2.zl b h; omega
  obtain ⟨st, gC, sC, nC⟩ := P5.C
  (repeat' first | refine go ?_ | (refine SOMEN.mk ea ?_) | ((refine MapAt.upn KeyE.int (x := x) sC fun st' s' => ?_)) | refine idxS_ fun _ _ _ => ?_ | refine sp (fun _ => ?_) fun _ => ?_ | fail)
  have P6 := P5.into (h' := h3.set mC (.map (mapE keyI (setA x w CL)) true st')) G hk i1 G'.ps (fun i hi => Heap.get_set_ne _ _ _ _ hi) (Heap.next_set ..) (MapAt.set_at s' (keys_setA_nodup nC)) rw5
  have hmC : F1 mC := hF mC (.inr (.inr (.inl rfl)))
  have W6 : GSlW Z1 askE (h3.set mC (.map (mapE keyI (setA x w CL)) true st')) vS S.W := (W1.exd x3).upd (S := fun i => i = mC) (Upd.set (Upd.refl _ _) (.inl rfl)) fun i _ e => by rw [e]; exact ⟨P1.fz mC hmC, fun h => (P2.n3 mC h).2.2 rfl⟩
  have PF6 : PF Z1 (h3.set mC (.map (mapE keyI (setA x w CL)) true st')) F1 p (inS S x u (S.P.takeWhile fun p => decide (p < x)).length) := P6.pf W6 hF P1.fz
  exact k _ Z1 F1 (gr1.trans ((Grow.exd x3).trans (Grow.of (Upd.set (Upd.refl _ _) (.inl hmC))))) (.inl PF6) fun _ _ => PF6
 ·rw [hcl] at g2
  have hf : fitsU u S.T = true := by
   cases h : fitsU u S.T
   ·exact absurd ⟨hcl, h⟩ c4
   ·rfl
  (repeat' first | refine go ?_ | refine idxS_ fun _ _ _ => ?_ | refine sp (fun _ => ?_) fun _ => ?_ | fail)
  refine CALLN.of (fits_cal ru1.rin P2.T.rin (by omega) (by omega) fun h2 x2 => ?_)
  rw [hf]
  have P4 := P2.exd x2
  have ru2 := ru1.exd x2
  have g4 := P4.g
  obtain ⟨N, hN⟩ : ∃ N, h2.next = N := ⟨_, rfl⟩
  obtain ⟨w, h3, ea, x3, GW, hw, _, _⟩ := append_copy (bytes := 8) ru2 hN (by omega)
  have ow := GW.1.one
  have P5 := P4.exd x3
  have hp1 := P4.lt
  have g5 := P5.g
  have rw5 : RSl Z1 intE h3 w u := GW.1.read fun b hb h => by have := hw b hb; have := P4.zl b h; omega
  obtain ⟨st, gC, sC, nC⟩ := P5.C
  (repeat' first | refine go ?_ | (refine SOMEN.mk ea ?_) | ((refine MapAt.upn KeyE.int (x := x) sC fun st' s' => ?_)) | refine idxS_ fun _ _ _ => ?_ | refine sp (fun _ => ?_) fun _ => ?_ | fail)
  have P6 := P5.into (h' := h3.set mC (.map (mapE keyI (setA x w CL)) true st')) G hk i1 G'.ps (fun i hi => Heap.get_set_ne _ _ _ _ hi) (Heap.next_set ..) (MapAt.set_at s' (keys_setA_nodup nC)) rw5
  have hmC : F1 mC := hF mC (.inr (.inr (.inl rfl)))
  have W6 : GSlW Z1 askE (h3.set mC (.map (mapE keyI (setA x w CL)) true st')) vS S.W := (W1.exd (x2.trans x3)).upd (S := fun i => i = mC) (Upd.set (Upd.refl _ _) (.inl rfl)) fun i _ e => by rw [e]; exact ⟨P1.fz mC hmC, fun h => (P2.n3 mC h).2.2 rfl⟩
  have PF6 : PF Z1 (h3.set mC (.map (mapE keyI (setA x w CL)) true st')) F1 p (inS S x u (S.P.takeWhile fun p => decide (p < x)).length) := P6.pf W6 hF P1.fz
  exact k _ Z1 F1 (gr1.trans ((Grow.exd (x2.trans x3)).trans (Grow.of (Upd.set (Upd.refl _ _) (.inl hmC))))) (.inl PF6) fun _ _ => PF6
end
theorem zero_cal {n : Nat} {h : Heap} {Q : CVal → Heap → Prop} (h6 : n ≤ 6) (k : ∀ v h', Exd h h' → v.one = true → (∀ Z : Nat → Prop, (∀ i, Z i → i < h.next) → RSl Z intE h' v (ofJ n fun _ => 0)) → Q v h') : Cal tt 55 [.int .i64 n] h Q := by
 obtain ⟨N, hN⟩ : ∃ N, h.next = N := ⟨_, rfl⟩
 refine Cal.run rfl rfl rfl rfl ?_
 have l8 : (n : Int) * 8 ≤ 1099511627776 := by omega
 by_cases h1 : n < 1
 ·obtain rfl : n = 0 := by omega
  (repeat' first | refine go ?_ | refine idxS_ fun _ _ _ => ?_ | refine sp (fun _ => ?_) fun _ => ?_ | fail)
  exact k _ _ (Exd.refl _) rfl fun Z _ => .inl ⟨rfl, rfl⟩
 (repeat' first | refine go ?_ | refine idxS_ fun _ _ _ => ?_ | refine sp (fun _ => ?_) fun _ => ?_ | fail)
 rw [show ((n : Nat) : Int).toNat = n from Int.toNat_natCast _]
 (repeat' first | refine go ?_ | refine idxS_ fun _ _ _ => ?_ | refine sp (fun _ => ?_) fun _ => ?_ | fail)
 refine k (.slice N 0 n n) _ (Exd.new (Exd.refl _)) rfl fun Z hz => RIn.rsl (.inr ⟨N, 0, _, by rw [ofJ_length], by rw [Heap.next_new]; omega, .inr ⟨_, _, _, Heap.new_at rfl hN.symm, fun p hp => ?_⟩⟩) (fun i hi h => by rw [isB_slice] at hi; have := hz i h; omega) fun _ _ _ _ e => by simp only [CVal.slice.injEq] at e; omega
 rw [repC_int, Nat.zero_add, List.getElem?_map, List.getElem?_eq_getElem hp]; rfl
section
variable {h₀ : Heap} {Z : Nat → Prop} {h : Heap} {p : Nat} {S : AS} {vT vA vS : CVal} {mH mC : Nat} {HL : List ((Int × Int) × CVal)} {CL : List (Int × CVal)} {x : Int} {Q : CVal → Heap → Prop}
set_option maxHeartbeats 2000000 in
theorem stuckB_cal (P : PV h₀ Z h p S vT vA vS mH mC HL CL) (G : GoodS S) (k : ∀ v h', Exd h h' → RIn h' v (stuckS S) → Q v h') : Cal tt 25 [.ptr p 0] h Q := by
 refine Cal.run rfl rfl rfl rfl ?_
 have t6 := G.t6
 have p32 := G.p32
 have wl := G.wl
 have lH := G.hl
 (repeat' first | refine go ?_ | refine idxS_ fun _ _ _ => ?_ | refine sp (fun _ => ?_) fun _ => ?_ | fail)
 refine CALLN.of (pidsB_cal P G fun vp h1 x1 rp bp => ?_)
 have P1 := P.exd x1
 have W1 := P1.asks.sub (Z' := fun i => h1.next ≤ i) fun i hi h => by omega
 have op := rp.one
 (repeat' first | refine go ?_ | refine idxS_ fun _ _ _ => ?_ | refine sp (fun _ => ?_) fun _ => ?_ | fail)
 refine loopC (fun y : Nat × CVal × CVal => [(0, .ptr p 0), (2, .nilSlice), (3, vp), (4, y.2.1), (5, y.2.2), (15, vp), (16, .int .i64 S.P.length), (17, .int .i64 y.1)]) (fun y h' => Exd h1 h' ∧ y.1 ≤ S.P.length ∧ GSl (fun i => isB y.2.2 i) rowE h' y.2.1 (S.H.take y.1) ∧ GSlW (fun i => isB y.2.1 i) rowE h' y.2.2 ((S.P.take y.1).map (askOf S)) ∧ (∀ b, isB y.2.1 b → h1.next ≤ b) ∧ (∀ b, isB y.2.2 b → h1.next ≤ b) ∧ ∀ b, isB y.2.1 b → ¬ isB y.2.2 b) (fun y => S.P.length - y.1) (0, .nilSlice, .nilSlice) ⟨rfl, rfl, rfl, rfl, rfl, rfl, rfl, rfl, trivial⟩ ⟨Exd.refl _, Nat.zero_le _, GSl.nil, GSlW.nil, fun b hb => (isB_nil hb).elim, fun b hb => (isB_nil hb).elim, fun b hb => (isB_nil hb).elim⟩ ?_
 rintro ⟨j, vh, va⟩ ρ h' ⟨xk, hj, Gh, Ga, hb, cb, ne⟩
 simp only at hj Gh Ga hb cb ne ⊢
 have P' := P1.exd xk
 have g' := P'.g
 have oh := Gh.one
 have oa := Ga.1.one
 have lk := xk.le
 by_cases hjl : j < S.P.length
 rotate_left
 ·obtain rfl : j = S.P.length := by omega
  rw [List.take_of_length_le (by omega)] at Gh Ga
  rw [← asksS_map] at Ga
  have lA := G.a
  have oA := P'.A.one
  (repeat' first | refine go ?_ | refine idxS_ fun _ _ _ => ?_ | refine sp (fun _ => ?_) fun _ => ?_ | fail)
  refine CALLN.of (hstuck_cal P'.A.rin (((Gh.sub (Z' := fun _ => False) fun _ _ f => f.elim).read fun _ _ f => f).rrows G.lenH) (((Ga.1.sub (Z' := fun _ => False) fun _ _ f => f.elim).read fun _ _ f => f).rrows G.lenAsks) (by omega) fun vs h2 x2 rs => ?_)
  have x02 := xk.trans x2
  have os := rs.one
  have slt := stuckU_lt (A := S.A) (H := S.H) (Q := asksS S)
  have sl := stuckU_len (A := S.A) (H := S.H) (Q := asksS S)
  rw [show stuckS S = (stuckU S.A S.H (asksS S)).map fun i => S.P.getD i 0 from rfl] at k
  generalize stuckU S.A S.H (asksS S) = U at *
  have nl := nats_length U
  have rp2 := rp.exd x02
  clear x2
  have l2 := x02.le
  (repeat' first | refine go ?_ | refine idxS_ fun _ _ _ => ?_ | refine sp (fun _ => ?_) fun _ => ?_ | fail)
  refine loopC (fun y : Nat × CVal => [(0, .ptr p 0), (2, y.2), (3, vp), (65, vs), (66, .int .i64 (nats U).length), (67, .int .i64 y.1)]) (fun y h' => Exd h2 h' ∧ y.1 ≤ U.length ∧ GSl (fun _ => False) intE h' y.2 ((U.take y.1).map fun i => S.P.getD i 0) ∧ ∀ b, isB y.2 b → h2.next ≤ b) (fun y => U.length - y.1) (0, .nilSlice) ⟨rfl, rfl, rfl, rfl, rfl, rfl, trivial⟩ ⟨Exd.refl _, Nat.zero_le _, GSl.nil, fun b hb => (isB_nil hb).elim⟩ ?_
  rintro ⟨j, vo⟩ ρ h' ⟨xk, hj, Go, ob⟩
  simp only at hj Go ob ⊢
  have oo := Go.one
  have rs' := rs.exd xk
  have rP' := rp2.exd xk
  by_cases hjl : j < U.length
  rotate_left
  ·obtain rfl : j = U.length := by omega
   rw [List.take_length] at Go
   (repeat' first | refine go ?_ | refine idxS_ fun _ _ _ => ?_ | refine sp (fun _ => ?_) fun _ => ?_ | fail)
   exact k _ _ (x1.trans (x02.trans xk)) Go.ints
  have hu : U[j] < S.H.length := slt _ (List.getElem_mem hjl)
  have gj : (nats U).getD (j : Int).toNat 0 = ((U[j] : Nat) : Int) := by rw [Int.toNat_natCast, nats, List.getD_eq_getElem?_getD, List.getElem?_map, List.getElem?_eq_getElem hjl]; rfl
  have gp : ∀ L : List Int, L.getD ((U[j] : Nat) : Int).toNat 0 = L.getD U[j] 0 := fun L => by rw [Int.toNat_natCast]
  have hpj : U.take (j + 1) = U.take j ++ [U[j]] := by
   rw [List.take_add_one, List.getElem?_eq_getElem hjl]; rfl
  have lx := xk.le
  obtain ⟨N1, hN1⟩ : ∃ N, h'.next = N := ⟨_, rfl⟩
  have x2 : Exd h' (h'.new (.cells [.int .i64 (S.P.getD U[j] 0)] true none)) := Exd.new (Exd.refl _)
  have src : srcC (h'.new (.cells [.int .i64 (S.P.getD U[j] 0)] true none)) 1 (.slice N1 0 1 1) = some (1, [.int .i64 (S.P.getD U[j] 0)]) := src_one (by exact get_) rfl rfl
  obtain ⟨h3, ea, u3, n3, G3⟩ := (Go.exd x2).push1 (bytes := 8) (a := S.P.getD U[j] 0) (N := N1 + 1) src (by rw [List.length_map, List.length_take]; omega) rfl (by rw [Heap.next_new, hN1])
  (repeat' first | refine go ?_ | ((refine RIn.idxS rs' (by omega) fun b o gA => ?_; rw [gj] at gA)) | ((refine RIn.idxS rP' (by omega) fun b o gB => ?_; rw [gp] at gB)) | (refine SOMEN.mk ea ?_) | refine idxS_ fun _ _ _ => ?_ | refine sp (fun _ => ?_) fun _ => ?_ | fail)
  refine ⟨rfl, (j + 1, _), ⟨rfl, rfl, rfl, rfl, rfl, rfl, trivial⟩, ⟨(?_ : Exd h2 h3), by show j + 1 ≤ U.length; omega, by show GSl _ _ h3 _ ((U.take (j + 1)).map _); rw [hpj, List.map_append]; exact G3, fun b hb => by rw [isB_slice] at hb; omega⟩, by simp only; omega⟩
  exact ⟨by rw [n3]; omega, fun i hi => (u3.get i (by rw [Heap.next_new]; omega) fun hb => by have := ob i hb; omega).trans ((x2.get i (by omega)).trans (xk.get i hi))⟩
 have ej : ∀ R : List Int, R.getD (j : Int).toNat 0 = R.getD j 0 := fun R => by rw [Int.toNat_natCast]
 have rp' := rp.exd xk
 (repeat' first | refine go ?_ | ((refine RIn.idxS rp' (by omega) fun b o g => ?_; rw [ej] at g)) | refine idxS_ fun _ _ _ => ?_ | refine sp (fun _ => ?_) fun _ => ?_ | fail)
 refine CALLN.of (heldB_cal P' G fun v h2 x2 Gv vb => ?_)
 have x2 : Exd h' h2 := x2
 have vb : ∀ b, isB v b → h'.next ≤ b := vb
 rw [rowOf, posI_self G.ps hjl] at Gv
 have Gv : GSl (fun _ => False) intE h2 v (rowU S.H j) := Gv
 have ov := Gv.one
 have l2 := x2.le
 have vhl := Gh.1
 have val := Ga.1.1
 obtain ⟨N2, hN2⟩ : ∃ N, h2.next = N := ⟨_, rfl⟩
 have x3 : Exd h2 (h2.new (.cells [v] true none)) := Exd.new (Exd.refl _)
 have src3 : srcC (h2.new (.cells [v] true none)) 1 (.slice N2 0 1 1) = some (1, [v]) := src_one (by exact get_) rfl rfl
 have he3 : rowE.ok (fun i => isB va i ∨ isB vh i) (h2.new (.cells [v] true none)) [v] (rowU S.H j) := slE.ok (((Gv.ints_any : GSl (fun i => isB va i ∨ isB vh i) intE h2 v (rowU S.H j)).read fun b hb h => by
  have := vb b hb
  rcases h with h | h
  ·have := val b h; omega
  ·have := vhl b h; omega).exd x3)
 obtain ⟨h3, ea, u3, n3, G3⟩ := (Gh.exd (x2.trans x3)).push1 (bytes := 24) (a := rowU S.H j) (N := N2 + 1) src3 (by rw [List.length_take]; omega) he3 (by rw [Heap.next_new, hN2])
 have u03 : Upd (isB vh) h' h3 := (x2.trans x3).upd.trans u3
 have l3 := u03.le
 have Ga3 : GSlW (fun i => isB (.slice (N2 + 1) 0 ((S.H.take j).length + 1) ((S.H.take j).length + 1)) i) rowE h3 va ((S.P.take j).map (askOf S)) := (GSlW.upd (Z := fun i => isB vh i ∨ h'.next ≤ i) (Ga.sub fun i hi h => h.elim id fun h => by omega) u03 fun i _ hi => ⟨.inl hi, ne i hi⟩).sub fun i _ h => .inr (by rw [isB_slice] at h; omega)
 have x03 : Exd h1 h3 := ⟨by omega, fun i hi => (u03.get i (by omega) fun h => by have := hb i h; omega).trans (xk.get i hi)⟩
 have P3 := P1.exd x03
 have g3 := P3.g
 have g2 := (P'.exd x2).g
 have p2 := (P'.exd x2).lt
 have rT3 := P3.T.rin
 (repeat' first | refine go ?_ | (refine SOMEN.mk ea ?_) | (refine RIn.lookLen rT3 rfl ?_) | refine idxS_ fun _ _ _ => ?_ | refine sp (fun _ => ?_) fun _ => ?_ | fail)
 refine CALLN.of (zero_cal t6 fun vz h4 x4 oz rz => ?_)
 have x4 : Exd h3 h4 := x4
 have rz : ∀ Z : Nat → Prop, (∀ i, Z i → i < h3.next) → RSl Z intE h4 vz (ofJ S.T.length fun _ => 0) := rz
 obtain ⟨N4, hN4⟩ : ∃ N, h4.next = N := ⟨_, rfl⟩
 have l4 := x4.le
 have x5 : Exd h4 (h4.new (.cells [vz] true none)) := Exd.new (Exd.refl _)
 have src5 : srcC (h4.new (.cells [vz] true none)) 1 (.slice N4 0 1 1) = some (1, [vz]) := src_one (by exact get_) rfl rfl
 have he5 : rowE.ok (fun i => isB (.slice (N2 + 1) 0 ((S.H.take j).length + 1) ((S.H.take j).length + 1)) i ∨ isB va i) (h4.new (.cells [vz] true none)) [vz] (ofJ S.T.length fun _ => 0) := slE.ok ((rz _ fun i hi => hi.elim (fun h => by rw [isB_slice] at h; omega) fun h => by have := val i h; omega).exd x5)
 obtain ⟨h6, e6, u6, n6, G6⟩ := GSlW.push1 (Ga3.1.exd (x4.trans x5)) (bytes := 24) (a := ofJ S.T.length fun _ => 0) (N := N4 + 1) src5 (by rw [List.length_map, List.length_take]; omega) he5 (by rw [Heap.next_new, hN4])
 have u36 : Upd (isB va) h3 h6 := (x4.trans x5).upd.trans u6
 have l6 := u36.le
 have Gh6 : GSl (fun i => isB (.slice (N4 + 1) 0 (((S.P.take j).map (askOf S)).length + 1) (((S.P.take j).map (askOf S)).length + 1)) i) rowE h6 (.slice (N2 + 1) 0 ((S.H.take j).length + 1) ((S.H.take j).length + 1)) (S.H.take j ++ [rowU S.H j]) := ((G3.sub (Z' := fun i => isB va i ∨ h3.next ≤ i) fun i hi h => h.elim id fun h => by omega).upd u36 fun i _ hi => ⟨.inl hi, fun h => by rw [isB_slice] at h; have := val i hi; omega⟩).sub fun i _ h => .inr (by rw [isB_slice] at h; omega)
 have x06 : Exd h1 h6 := ⟨by omega, fun i hi => (u36.get i (by omega) fun h => by have := cb i h; omega).trans (x03.get i hi)⟩
 have P6 := P1.exd x06
 have g6 := P6.g
 have o6 := P6.asks.one
 have g4 := x4.skip P3.lt g3
 have p4 := P3.lt
 (repeat' first | refine go ?_ | (refine SOMEN.mk e6 ?_) | refine idxS_ fun _ _ _ => ?_ | refine sp (fun _ => ?_) fun _ => ?_ | fail)
 refine CALLN.of (of_cal fun b h7 x7 b1 b2 gb => ?_)
 have x7 : Exd h6 h7 := x7
 have gb : h7.get b = _ := gb
 have b2 : b < h7.next := b2
 have P7 := P6.exd x7
 have g7 := P7.g
 (repeat' first | refine go ?_ | refine idxS_ fun _ _ _ => ?_ | refine sp (fun _ => ?_) fun _ => ?_ | fail)
 refine CALLN.of (idxAsk_cal P7.asks (by omega) b2 gb fun h8 x8 => ?_)
 have x68 : Exd h6 h8 := x7.trans x8
 clear x7 x8
 have l8 := x68.le
 have Gh8 := Gh6.exd x68
 have Ga8 := G6.exd x68
 have g8 := (P6.exd x68).g
 have xx := x06.trans x68
 have hpj : S.P.take (j + 1) = S.P.take j ++ [S.P.getD j 0] := by
  rw [List.take_add_one, List.getD_eq_getElem?_getD, List.getElem?_eq_getElem hjl]; rfl
 cases hw : posW S.W (S.P.getD j 0) with
 | none =>
   have pn : posN (none : Option Nat) = -1 := rfl
   (repeat' first | refine go ?_ | refine idxS_ fun _ _ _ => ?_ | refine sp (fun _ => ?_) fun _ => ?_ | fail)
   refine ⟨rfl, (j + 1, _, _), ⟨rfl, rfl, rfl, rfl, rfl, rfl, rfl, rfl, trivial⟩, ⟨xx, by show j + 1 ≤ S.P.length; omega, by show GSl _ _ h8 _ (S.H.take (j + 1)); rw [take_rowU (by omega)]; exact Gh8, ?_, fun b h => by rw [isB_slice] at h; omega, fun b h => by rw [isB_slice] at h; omega, fun b h h2 => by rw [isB_slice] at h h2; omega⟩, by simp only; omega⟩
   show GSlW _ _ h8 _ ((S.P.take (j + 1)).map (askOf S))
   rw [hpj, List.map_append, show [S.P.getD j 0].map (askOf S) = [ofJ S.T.length fun _ => 0] by rw [List.map_singleton, askOf, hw]]
   exact Ga8
 | some w =>
   have pn : posN (some w) = (w : Int) := rfl
   obtain ⟨w1, w2⟩ := posI_at hw
   rw [List.length_map] at w1
   obtain ⟨b0, o0, v0, r0, a0, hi0⟩ := (W1.exd xx).pairE (j := w) (p := (S.W.getD w (0, [])).1) (us := (S.W.getD w (0, [])).2) (by rw [List.getD_eq_getElem?_getD, List.getElem?_eq_getElem w1]; rfl)
   have a1 : At1 h8 b0 (o0 + 1) v0 := a0.at (j := 1) rfl
   have ov0 := r0.one
   have o8 := P7.asks.one
   have ll : ((S.P.take j).map (askOf S)).length = j := by rw [List.length_map, List.length_take]; omega
   have he8 : rowE.ok (fun i => isB (.slice (N2 + 1) 0 ((S.H.take j).length + 1) ((S.H.take j).length + 1)) i ∨ isB (.slice (N4 + 1) 0 (((S.P.take j).map (askOf S)).length + 1) (((S.P.take j).map (askOf S)).length + 1)) i) h8 [v0] (S.W.getD w (0, [])).2 := slE.ok (r0.sub fun i _ h => h.elim (fun h => by rw [isB_slice] at h; omega) fun h => by rw [isB_slice] at h; omega)
   (repeat' first | refine go ?_ | (refine hi0 _ ?_) | refine idxS_ fun _ _ _ => ?_ | refine sp (fun _ => ?_) fun _ => ?_ | fail)
   refine GSlW.store Ga8 (isB_slice.2 rfl) (j := ((S.P.take j).map (askOf S)).length) (by rw [List.length_append, List.length_singleton]; omega) rfl (by omega) he8 fun h9 G9 u9 n9 => ?_
   (repeat' first | refine go ?_ | refine idxS_ fun _ _ _ => ?_ | refine sp (fun _ => ?_) fun _ => ?_ | fail)
   have l9 := u9.le
   have nb : ∀ i, isB (.slice (N4 + 1) 0 (((S.P.take j).map (askOf S)).length + 1) (((S.P.take j).map (askOf S)).length + 1)) i → i = N4 + 1 := fun i h => by rw [isB_slice] at h; exact h
   refine ⟨rfl, (j + 1, _, _), ⟨rfl, rfl, rfl, rfl, rfl, rfl, rfl, rfl, trivial⟩, ⟨(⟨by have := xx.le; omega, fun i hi => (u9.get i (by omega) fun h => by have := nb i h; omega).trans (xx.get i hi)⟩ : Exd h1 h9), by show j + 1 ≤ S.P.length; omega, by show GSl _ _ h9 _ (S.H.take (j + 1)); rw [take_rowU (by omega)]; exact Gh8.upd u9 fun i _ h => ⟨h, fun h2 => by rw [isB_slice] at h2; have := nb i h; omega⟩, ?_, fun b h => by rw [isB_slice] at h; omega, fun b h => by rw [isB_slice] at h; omega, fun b h h2 => by rw [isB_slice] at h h2; omega⟩, by simp only; omega⟩
   show GSlW _ _ h9 _ ((S.P.take (j + 1)).map (askOf S))
   rw [hpj, List.map_append, show [S.P.getD j 0].map (askOf S) = [(S.W.getD w (0, [])).2] by rw [List.map_singleton, askOf, hw]]
   rw [List.set_append_right _ _ (Nat.le_refl _), Nat.sub_self] at G9
   exact G9
end
theorem anewP_cal {v : CVal} {T : List Int} {cl : Bool} {h : Heap} {Q : CVal → Heap → Prop} (hr : RIn h v T) (hl : T.length ≤ 1000000000) (k0 : totU T = false → Q (.tuple [.nilPtr, .int .i64 1]) h)
 (k1 : totU T = true → ∀ p h', Exd h h' → h.next ≤ p → p < h'.next → PN (fun i => i = p) h' (fun i => i = p) p (newS T cl) → Q (.tuple [.ptr p 0, .int .i64 0]) h') : Cal tt 11 [v, .bool cl] h Q := by
 refine Cal.run rfl rfl rfl rfl ?_
 have ov := hr.one
 by_cases l6 : T.length ≤ 6
 rotate_left
 ·(repeat' first | refine go ?_ | refine idxS_ fun _ _ _ => ?_ | refine sp (fun _ => ?_) fun _ => ?_ | fail)
  exact k0 (by simp [totU, l6])
 cases hm : mayU T
 ·(repeat' first | refine go ?_ | (refine CALLN.of (is_cal hr hl ?_)) | (refine BC.no (by rw [hm, Bool.and_false]) ?_) | refine idxS_ fun _ _ _ => ?_ | refine sp (fun _ => ?_) fun _ => ?_ | fail)
  exact k0 (by simp [totU, hm])
 by_cases hz : (0 : Int) ∈ T
 ·(repeat' first | refine go ?_ | (refine CALLN.of (is_cal hr hl ?_)) | (refine CALLN.of (hasInt_cal hr hl ?_)) | (refine BC.yes (by rw [hm, Bool.and_true]; exact decide_eq_true (by omega)) ?_) | (refine BC.yes (decide_eq_true hz) ?_) | refine idxS_ fun _ _ _ => ?_ | refine sp (fun _ => ?_) fun _ => ?_ | fail)
  exact k0 (by simp [totU, hz])
 have ht : totU T = true := by simp [totU, l6, hm, hz]
 (repeat' first | refine go ?_ | (refine CALLN.of (is_cal hr hl ?_)) | (refine CALLN.of (hasInt_cal hr hl ?_)) | (refine BC.yes (by rw [hm, Bool.and_true]; exact decide_eq_true (by omega)) ?_) | (refine BC.no (decide_eq_false hz) ?_) | refine idxS_ fun _ _ _ => ?_ | refine sp (fun _ => ?_) fun _ => ?_ | fail)
 refine CALLN.of (cloneW_cal hr hl fun v1 h1 x1 s1 => ?_)
 have x1 : Exd h h1 := x1
 have s1 : WSl h h1 v1 T := s1
 have o1 := s1.one
 have l1 := x1.le
 obtain ⟨N, hN⟩ : ∃ N, h1.next = N := ⟨_, rfl⟩
 have x2 : Exd h1 (h1.new (.cells [v1, .bool cl, .int .u32 0, .int .i32 0, .int .u32 0, .nilSlice, .nilMap, .nilMap, .nilSlice] true none)) := Exd.new (Exd.refl _)
 (repeat' first | refine go ?_ | refine idxS_ fun _ _ _ => ?_ | refine sp (fun _ => ?_) fun _ => ?_ | fail)
 refine k1 ht N _ (x1.trans x2) (by omega) (by exact lt_) ⟨⟨v1, T, rfl, by exact get_, ((s1.exd x2).rin.rsl (fun b hb e => ?_) fun i o l c e => ?_)⟩, fun i e => by rw [e]; exact lt_, rfl, fun _ h => h⟩
 ·rcases s1 with ⟨rfl, _⟩ | ⟨b', e', _, h4, _⟩
  ·exact isB_nil hb
  ·rw [e', isB_slice] at hb; omega
 ·rcases s1 with ⟨rfl, _⟩ | ⟨b', e', _, _⟩
  ·simp at e
  ·rw [e'] at e
   simp only [CVal.slice.injEq] at e
   omega
theorem Grow.rv {h h' : Heap} {Z F Z' F' : Nat → Prop} {q : Nat} {S : AS} {vT vA vP vH vC vW : CVal} (g : Grow h Z F h' Z' F') (fz : ∀ i, F i → Z i) (zl : ∀ i, Z' i → i < h'.next) (hq : ¬ F q) (R : RV Z h q S vT vA vP vH vC vW) : RV Z' h' q S vT vA vP vH vC vW := by
 refine R.frame g.u (fun i _ h1 => ⟨fz i h1, fun e => hq (e ▸ h1)⟩) (fun i hi h1 => ?_) (g.z q R.zq) zl
 rcases g.zn i h1 with h2 | ⟨_, h2⟩
 ·exact h2
 ·omega
def qF (F : Nat → Prop) (q : Nat) (i : Nat) : Prop := F i ∨ i = q
theorem Grow.q {h h' : Heap} {Z F Z' F' : Nat → Prop} (g : Grow h Z F h' Z' F') (q : Nat) : Grow h Z (qF F q) h' Z' (qF F' q) :=
 ⟨g.u.sub fun _ _ h => .inl h, g.z, fun _ h => h.imp (g.f _) id, fun i h => (g.zn i h).imp id fun h => ⟨.inl h.1, h.2⟩, fun i h => h.elim (fun h => (g.fn i h).imp .inl id) fun h => .inl (.inr h)⟩
structure Two (Z F : Nat → Prop) (h : Heap) (p q : Nat) (S : AS) : Prop where
 P : PQ Z h F p S
 R : RR Z h q S
 n : ¬ F q
 z : Z q
 G : GoodS S
structure TwoB (Z F : Nat → Prop) (h : Heap) (p q : Nat) (S : AS) : Prop where
 P : PF Z h F p S
 R : RR Z h q S
 n : ¬ F q
 z : Z q
 G : GoodS S
section
variable {Z F Z' F' : Nat → Prop} {h h' : Heap} {p q : Nat} {S : AS}
theorem TwoB.two (T : TwoB Z F h p q S) : Two Z F h p q S := ⟨.inl T.P, T.R, T.n, T.z, T.G⟩
theorem Two.fz (T : Two Z F h p q S) : ∀ i, qF F q i → Z i := fun i h => h.elim (T.P.fz i) fun e => by rw [e]; exact T.z
theorem Two.zl (T : Two Z F h p q S) : ∀ i, Z i → i < h.next := T.P.zl
theorem RR.exd (R : RR Z h q S) (x : Exd h h') : RR Z h' q S := by
 obtain ⟨a, b, c, d, e, f, R⟩ := R
 exact ⟨a, b, c, d, e, f, R.exd x⟩
theorem Two.exd (T : Two Z F h p q S) (x : Exd h h') : Two Z F h' p q S := ⟨T.P.exd x, T.R.exd x, T.n, T.z, T.G⟩
theorem TwoB.exd (T : TwoB Z F h p q S) (x : Exd h h') : TwoB Z F h' p q S := ⟨T.P.exd x, T.R.exd x, T.n, T.z, T.G⟩
theorem Grow.notF (g : Grow h Z F h' Z' F') (n : ¬ F q) (hq : q < h.next) : ¬ F' q := fun h1 => (g.fn q h1).elim n fun h => by omega
end
def playS (S : AS) (kind pid : Int) (u : List Int) : AS := if kind = 0 then (admitS S pid u).1 else if kind = 1 then (askS S pid u).1 else if kind = 2 then (giveS S pid u).1 else (leaveS S pid).1
theorem scanL_len : ∀ {xs : List (Int × List Int)} {S : AS} {left : List (Int × List Int)} {out : List Int}, (scanL xs S left out).2.length ≤ out.length + xs.length
 | [], _, _, _ => by simp [scanL]
 | x :: xs, S, left, out => by
   rw [scanL]
   split
   ·refine Nat.le_trans (scanL_len (xs := xs)) ?_
    rw [List.length_append, List.length_singleton, List.length_cons]
    omega
   ·refine Nat.le_trans (scanL_len (xs := xs)) ?_
    rw [List.length_cons]
    omega
theorem scanS_len {S : AS} : (scanS S).2.length ≤ S.W.length := by
 have := scanL_len (xs := S.W) (S := S) (left := []) (out := [])
 rw [List.length_nil, Nat.zero_add] at this
 exact this
theorem askS_len {S : AS} (G : GoodS S) {pid : Int} {u : List Int} : (askS S pid u).2.1.length ≤ 1000000000 := by
 have := G.wl
 rcases askS_cases S pid u with ⟨_, h⟩ | ⟨k, _, _, _, _, h⟩
 ·rw [h]; simp
 ·rw [h]
  refine Nat.le_trans scanS_len ?_
  simp only [List.length_append, List.length_singleton]
  omega
theorem giveS_len {S : AS} (G : GoodS S) {pid : Int} {u : List Int} : (giveS S pid u).2.1.length ≤ 1000000000 := by
 have := G.wl
 rcases giveS_cases S pid u with ⟨_, h⟩ | ⟨k, _, _, _, h⟩
 ·rw [h]; simp
 ·rw [h]
  exact Nat.le_trans scanS_len (by show S.W.length ≤ _; omega)
theorem leaveS_len {S : AS} (G : GoodS S) {pid : Int} : (leaveS S pid).2.1.length ≤ 1000000000 := by
 have := G.wl
 rcases leaveS_cases S pid with ⟨_, h⟩ | ⟨k, _, h⟩
 ·rw [h]; simp
 ·rw [h]
  have : (cutW S.W pid).length ≤ S.W.length := cutW_sub.length_le
  exact Nat.le_trans scanS_len (by show (cutW S.W pid).length ≤ _; omega)
theorem RIn.upd {U : Nat → Prop} {h h' : Heap} {v : CVal} {R : List Int} (s : RIn h v R) (u : Upd U h h') (n : ∀ i, isB v i → ¬ U i) : RIn h' v R :=
 s.frame fun i _ _ _ e hi => ⟨Nat.lt_of_lt_of_le hi u.le, u.get i hi (n i ⟨_, _, _, e⟩)⟩
section
variable {Z F : Nat → Prop} {h : Heap} {p q : Nat} {S : AS} {Q : CVal → Heap → Prop}
set_option maxHeartbeats 2000000 in
theorem plays_cal {kind pid : Int} {vu : CVal} {u : List Int} (T : Two Z F h p q S) (ru : RSl Z intE h vu u) (lu : u.length ≤ 1000000000) (hp : pid ≤ 9223372036854775807)
 (k : ∀ h' Z' F', Grow h Z (qF F q) h' Z' (qF F' q) → Two Z' F' h' p q (playS S kind pid u) → (kind ≠ 0 → TwoB Z' F' h' p q (playS S kind pid u)) → Q (.bool true) h') : Cal tt 13 [.ptr p 0, .ptr q 0, .agg [.int .i64 kind, .int .i64 pid, vu]] h Q := by
 obtain ⟨N, hN⟩ : ∃ N, h.next = N := ⟨_, rfl⟩
 refine Cal.run rfl rfl rfl rfl ?_
 have ou := ru.one
 have x0 : Exd h (h.new (.cells [.int .i64 kind, .int .i64 pid, vu] true none)) := Exd.new (Exd.refl _)
 have gN : (h.new (.cells [.int .i64 kind, .int .i64 pid, vu] true none)).get N = some (.cells [.int .i64 kind, .int .i64 pid, vu] true none) := by exact get_
 have nN : N < (h.new (.cells [.int .i64 kind, .int .i64 pid, vu] true none)).next := by exact lt_
 have qh := T.zl q T.z
 have T0 := T.exd x0
 have NF : ¬ F N := fun hF => by have := T.zl N (T.P.fz N hF); omega
 have ru0 := ru.exd x0
 have G := T.G
 obtain ⟨hx, ehx⟩ : ∃ hx, h.new (.cells [.int .i64 kind, .int .i64 pid, vu] true none) = hx := ⟨_, rfl⟩
 rw [ehx] at x0 gN nN T0 ru0
 have lx := x0.le
 have step : ∀ {h1 : Heap} {Z1 F1 : Nat → Prop} {S1 : AS}, Grow hx Z F h1 Z1 F1 → PQ Z1 h1 F1 p S1 → RR Z1 h1 q S ∧ h1.get N = some (.cells [.int .i64 kind, .int .i64 pid, vu] true none) ∧ RSl Z1 intE h1 vu u ∧ ¬ F1 q ∧ Z1 q ∧ N < h1.next := fun g P => ⟨g.rr T0.P.fz P.zl T.n T0.R, (g.u.get N nN NF).trans gN, g.rsl T0.P.fz ru0, g.notF T.n (by omega), g.z q T.z, Nat.lt_of_lt_of_le nN g.u.le⟩
 have fin : ∀ {h1 h2 : Heap} {Z1 F1 : Nat → Prop} {S1 : AS}, Grow hx Z F h1 Z1 F1 → PQ Z1 h1 F1 p S1 → Upd (fun i => i = q) h1 h2 → RR Z1 h2 q S1 → ¬ F1 q → Z1 q → GoodS S1 → Two Z1 F1 h2 p q S1 ∧ Grow h Z (qF F q) h2 Z1 (qF F1 q) := fun {h1 h2 Z1 F1 S1} g P u2 R2 n1 z1 G1 =>
  ⟨⟨P.ref u2 z1 n1, R2, n1, z1, G1⟩, ((Grow.exd x0).trans (g.q q)).trans (Grow.of (u2.sub fun i _ e => .inr e))⟩
 have toB : ∀ {h2 : Heap} {Z1 F1 : Nat → Prop} {S1 : AS}, Two Z1 F1 h2 p q S1 → PF Z1 h2 F1 p S1 → TwoB Z1 F1 h2 p q S1 := fun T P => ⟨P, T.R, T.n, T.z, T.G⟩
 have pfr : ∀ {h1 h2 : Heap} {Z1 F1 : Nat → Prop} {S1 : AS}, PF Z1 h1 F1 p S1 → Upd (fun i => i = q) h1 h2 → ¬ F1 q → Z1 q → PF Z1 h2 F1 p S1 := fun P u n1 z1 => P.frame u (fun i _ e => by rw [e]; exact ⟨z1, n1⟩) (fun _ _ h => h) (fun _ h => h) fun i hi => Nat.lt_of_lt_of_le (P.zl i hi) u.le
 by_cases k0 : kind = 0
 ·rw [show playS S kind pid u = (admitS S pid u).1 by rw [playS, if_pos k0]] at k
  have G1 := G.admit (pid := pid) (c := u) hp
  (repeat' first | refine go ?_ | refine idxS_ fun _ _ _ => ?_ | refine sp (fun _ => ?_) fun _ => ?_ | fail)
  rw [ehx]
  refine CALLN.of (admitQ_cal T0.P G ru0 lu hp fun h1 Z1 F1 gr1 P1 _ => ?_)
  obtain ⟨R1, gN1, ru1, n1, z1, nN1⟩ := step gr1 P1
  (repeat' first | refine go ?_ | refine idxS_ fun _ _ _ => ?_ | refine sp (fun _ => ?_) fun _ => ?_ | fail)
  refine CALLN.of (admitA_cal R1 G ru1 lu hp fun h2 u2 R2 => ?_)
  obtain ⟨T2, g2⟩ := fin gr1 P1 u2 R2 n1 z1 G1
  (repeat' first | refine go ?_ | refine idxS_ fun _ _ _ => ?_ | refine sp (fun _ => ?_) fun _ => ?_ | fail)
  exact k _ _ _ g2 T2 fun h => absurd k0 h
 by_cases k1 : kind = 1
 ·rw [show playS S kind pid u = (askS S pid u).1 by rw [playS, if_neg k0, if_pos k1]] at k
  (repeat' first | refine go ?_ | refine idxS_ fun _ _ _ => ?_ | refine sp (fun _ => ?_) fun _ => ?_ | fail)
  rw [ehx]
  refine CALLN.of (askQ_cal T0.P G ru0 lu fun v1 h1 Z1 F1 gr1 P1 r1 b1 => ?_)
  obtain ⟨R1, gN1, ru1, n1, z1, nN1⟩ := step gr1 (.inl P1)
  have o1 := r1.one
  (repeat' first | refine go ?_ | refine idxS_ fun _ _ _ => ?_ | refine sp (fun _ => ?_) fun _ => ?_ | fail)
  refine CALLN.of (askA_cal R1 G ru1.rin lu fun v2 h2 u2 R2 r2 => ?_)
  have r1' := r1.upd u2 fun i hi e => by have := b1 i hi; omega
  have o2 := r2.one
  obtain ⟨T2, g2⟩ := fin gr1 (.inl P1) u2 R2 n1 z1 G.asks
  (repeat' first | refine go ?_ | refine idxS_ fun _ _ _ => ?_ | refine sp (fun _ => ?_) fun _ => ?_ | fail)
  refine CALLN.of (ints_cal r1' r2 (askS_len G) ?_)
  rw [decide_eq_true rfl]
  (repeat' first | refine go ?_ | refine idxS_ fun _ _ _ => ?_ | refine sp (fun _ => ?_) fun _ => ?_ | fail)
  exact k _ _ _ g2 T2 fun _ => toB T2 (pfr P1 u2 n1 z1)
 by_cases k2 : kind = 2
 ·rw [show playS S kind pid u = (giveS S pid u).1 by rw [playS, if_neg k0, if_neg k1, if_pos k2]] at k
  (repeat' first | refine go ?_ | refine idxS_ fun _ _ _ => ?_ | refine sp (fun _ => ?_) fun _ => ?_ | fail)
  rw [ehx]
  refine CALLN.of (giveQ_cal T0.P G ru0 lu fun v1 h1 Z1 F1 gr1 P1 r1 b1 => ?_)
  obtain ⟨R1, gN1, ru1, n1, z1, nN1⟩ := step gr1 (.inl P1)
  have o1 := r1.one
  (repeat' first | refine go ?_ | refine idxS_ fun _ _ _ => ?_ | refine sp (fun _ => ?_) fun _ => ?_ | fail)
  refine CALLN.of (giveA_cal R1 G ru1 lu fun v2 h2 u2 R2 r2 => ?_)
  have r1' := r1.upd u2 fun i hi e => by have := b1 i hi; omega
  have o2 := r2.one
  obtain ⟨T2, g2⟩ := fin gr1 (.inl P1) u2 R2 n1 z1 G.gives
  (repeat' first | refine go ?_ | refine idxS_ fun _ _ _ => ?_ | refine sp (fun _ => ?_) fun _ => ?_ | fail)
  refine CALLN.of (ints_cal r1' r2 (giveS_len G) ?_)
  rw [decide_eq_true rfl]
  (repeat' first | refine go ?_ | refine idxS_ fun _ _ _ => ?_ | refine sp (fun _ => ?_) fun _ => ?_ | fail)
  exact k _ _ _ g2 T2 fun _ => toB T2 (pfr P1 u2 n1 z1)
 rw [show playS S kind pid u = (leaveS S pid).1 by rw [playS, if_neg k0, if_neg k1, if_neg k2]] at k
 (repeat' first | refine go ?_ | refine idxS_ fun _ _ _ => ?_ | refine sp (fun _ => ?_) fun _ => ?_ | fail)
 rw [ehx]
 refine CALLN.of (leaveQ_cal T0.P G fun v1 h1 Z1 F1 gr1 P1 r1 b1 => ?_)
 obtain ⟨R1, gN1, ru1, n1, z1, nN1⟩ := step gr1 (.inl P1)
 have o1 := r1.one
 (repeat' first | refine go ?_ | refine idxS_ fun _ _ _ => ?_ | refine sp (fun _ => ?_) fun _ => ?_ | fail)
 refine CALLN.of (leaveA_cal R1 G fun v2 h2 u2 R2 r2 => ?_)
 have r1' := r1.upd u2 fun i hi e => by have := b1 i hi; omega
 have o2 := r2.one
 obtain ⟨T2, g2⟩ := fin gr1 (.inl P1) u2 R2 n1 z1 G.leaves
 (repeat' first | refine go ?_ | refine idxS_ fun _ _ _ => ?_ | refine sp (fun _ => ?_) fun _ => ?_ | fail)
 refine CALLN.of (ints_cal r1' r2 (leaveS_len G) ?_)
 rw [decide_eq_true rfl]
 cases hb : (leaveS S pid).2.2
 all_goals
  (repeat' first | refine go ?_ | refine idxS_ fun _ _ _ => ?_ | refine sp (fun _ => ?_) fun _ => ?_ | fail)
  exact k _ _ _ g2 T2 fun _ => toB T2 (pfr P1 u2 n1 z1)
end
theorem rowOf_at {M : List (List Int)} {S : AS} (G : GoodS S) {j : Nat} (hj : j < S.P.length) : rowOf M S (S.P.getD j 0) = rowU M j := by rw [rowOf, posI_self G.ps hj]
theorem rowOf_none {M : List (List Int)} {S : AS} (G : GoodS S) {x : Int} (hx : x < 1) : rowOf M S x = [] := by rw [rowOf, posI_mem.2 fun h => by have := G.p1 x h; omega]
theorem stuckS_len {S : AS} (G : GoodS S) : (stuckS S).length ≤ 1000000000 := by
 have := stuckU_len (A := S.A) (H := S.H) (Q := asksS S)
 have := G.hl
 have := G.p32
 rw [stuckS, List.length_map]
 omega
theorem BC.same {a : Bool} {X Y : Prop} (k : X) : BC a (BC a X Y) (BC a Y X) := by cases a <;> exact k
section
variable {Z F : Nat → Prop} {h : Heap} {p q : Nat} {S : AS} {Q : CVal → Heap → Prop}
set_option maxHeartbeats 4000000 in
theorem same_cal (T : Two Z F h p q S) (k : ∀ h' Z' F', Grow h Z (qF F q) h' Z' (qF F' q) → TwoB Z' F' h' p q S → Q (.bool true) h') : Cal tt 14 [.ptr p 0, .ptr q 0] h Q := by
 refine Cal.run rfl rfl rfl rfl ?_
 have G := T.G
 have t6 := G.t6
 have p32 := G.p32
 have wl := G.wl
 have lA := G.a
 have lH := G.hl
 have lC := G.cl
 obtain ⟨vT, vA, vP, vH, vC, vW, R⟩ := T.R
 have g := R.g
 (repeat' first | refine go ?_ | refine idxS_ fun _ _ _ => ?_ | refine sp (fun _ => ?_) fun _ => ?_ | fail)
 refine CALLN.of (availQ_cal T.P G fun v1 h1 Z1 F1 gr1 P1 r1 _ => ?_)
 have R1 := gr1.rv T.P.fz P1.zl T.n R
 have TB : TwoB Z1 F1 h1 p q S := ⟨P1, ⟨_, _, _, _, _, _, R1⟩, gr1.notF T.n R.lt, gr1.z q T.z, G⟩
 have gr1 := gr1.q q
 have g1 := R1.g
 have o1 := r1.one
 have rA := R1.A.rin
 clear R
 (repeat' first | refine go ?_ | refine idxS_ fun _ _ _ => ?_ | refine sp (fun _ => ?_) fun _ => ?_ | fail)
 refine CALLN.of (ints_cal r1 rA (by omega) ?_)
 rw [decide_eq_true rfl]
 obtain ⟨h₀, vT', vA', vS', mH, mC, HL, CL, P2, _, _⟩ := P1.e
 (repeat' first | refine go ?_ | refine idxS_ fun _ _ _ => ?_ | refine sp (fun _ => ?_) fun _ => ?_ | fail)
 refine CALLN.of (pidsB_cal P2 G fun v2 h2 x2 r2 _ => ?_)
 have x2 : Exd h1 h2 := x2
 have r2 : RIn h2 v2 S.P := r2
 have o2 := r2.one
 have R2 := R1.exd x2
 have g2 := R2.g
 have rP := R2.P.rin
 (repeat' first | refine go ?_ | refine idxS_ fun _ _ _ => ?_ | refine sp (fun _ => ?_) fun _ => ?_ | fail)
 refine CALLN.of (ints_cal r2 rP (by omega) ?_)
 rw [decide_eq_true rfl]
 (repeat' first | refine go ?_ | refine idxS_ fun _ _ _ => ?_ | refine sp (fun _ => ?_) fun _ => ?_ | fail)
 refine CALLN.of (safeB_cal (P2.exd x2) G fun h3 x3 => ?_)
 have x13 := x2.trans x3
 clear x2 x3 r1 r2 rA rP
 have R3 := R1.exd x13
 have g3 := R3.g
 (repeat' first | refine go ?_ | refine idxS_ fun _ _ _ => ?_ | refine sp (fun _ => ?_) fun _ => ?_ | fail)
 refine CALLN.of (safeA_cal R3 G fun h4 x4 => ?_)
 have x14 := x13.trans x4
 have R4 := R1.exd x14
 have g4 := R4.g
 have P4 := P2.exd x14
 clear x13 x4
 (repeat' first | refine go ?_ | (refine BC.same ?_) | refine idxS_ fun _ _ _ => ?_ | refine sp (fun _ => ?_) fun _ => ?_ | fail)
 refine CALLN.of (stuckB_cal P4 G fun v5 h5 x5 r5 => ?_)
 have x15 := x14.trans x5
 have r5 : RIn h5 v5 (stuckS S) := r5
 have o5 := r5.one
 have R5 := R1.exd x15
 have g5 := R5.g
 clear x5
 (repeat' first | refine go ?_ | refine idxS_ fun _ _ _ => ?_ | refine sp (fun _ => ?_) fun _ => ?_ | fail)
 refine CALLN.of (stuckA_cal R5 G fun v6 h6 x6 r6 => ?_)
 have r56 := r5.exd x6
 have x16 := x15.trans x6
 have r6 : RIn h6 v6 (stuckS S) := r6
 have o6 := r6.one
 have R6 := R1.exd x16
 have g6 := R6.g
 have P6 := P2.exd x16
 clear x15 x6
 (repeat' first | refine go ?_ | refine idxS_ fun _ _ _ => ?_ | refine sp (fun _ => ?_) fun _ => ?_ | fail)
 refine CALLN.of (ints_cal r56 r6 (stuckS_len G) ?_)
 rw [decide_eq_true rfl]
 clear r5 r56 r6
 (repeat' first | refine go ?_ | refine idxS_ fun _ _ _ => ?_ | refine sp (fun _ => ?_) fun _ => ?_ | fail)
 refine CALLN.of (pendingB_cal P6 G fun v7 h7 x7 r7 => ?_)
 have x17 : Exd h1 h7 := x16.trans x7
 have r7 : RSl (fun _ => False) askE h7 v7 S.W := r7
 have o7 := r7.one
 have R7 := R1.exd x17
 have g7 := R7.g
 have P7 := P2.exd x17
 clear x16 x7
 (repeat' first | refine go ?_ | (refine r7.lenS ?_) | (refine R7.W.lenS ?_) | refine idxS_ fun _ _ _ => ?_ | refine sp (fun _ => ?_) fun _ => ?_ | fail)
 refine loopC (fun j : Nat => [(0, .ptr p 0), (1, .ptr q 0), (5, v7), (6, .int .i64 j)]) (fun j h' => h' = h7 ∧ j ≤ S.W.length) (fun j => S.W.length - j) 0 ⟨rfl, rfl, rfl, rfl, trivial⟩ ⟨rfl, Nat.zero_le _⟩ ?_
 rintro j ρ h' ⟨rfl, hj⟩
 by_cases hjl : j < S.W.length
 rotate_left
 ·(repeat' first | refine go ?_ | (refine r7.lenS ?_) | refine idxS_ fun _ _ _ => ?_ | refine sp (fun _ => ?_) fun _ => ?_ | fail)
  refine loopC (fun j : Nat => [(0, .ptr p 0), (1, .ptr q 0), (7, .int .i64 j)]) (fun j h'' => Exd h' h'' ∧ j ≤ S.P.length) (fun j => S.P.length - j) 0 ⟨rfl, rfl, rfl, trivial⟩ ⟨Exd.refl _, Nat.zero_le _⟩ ?_
  rintro i ρ h8 ⟨x8, hi⟩
  have x18 := x17.trans x8
  have R8 := R1.exd x18
  have g8 := R8.g
  have P8 := P2.exd x18
  have rP := R8.P.rin
  by_cases hil : i < S.P.length
  rotate_left
  ·(repeat' first | refine go ?_ | refine idxS_ fun _ _ _ => ?_ | refine sp (fun _ => ?_) fun _ => ?_ | fail)
   refine CALLN.of (heldB_cal P8 G fun v9 h9 x9 r9 _ => ?_)
   have x19 : Exd h1 h9 := x18.trans x9
   have r9 : GSl (fun _ => False) intE h9 v9 (rowOf S.H S 0) := r9
   rw [rowOf_none G (by omega)] at r9
   have r9 := r9.ints
   have e0 : (([] : List Int).length : Int) = 0 := rfl
   have P9 := P2.exd x19
   clear x9
   (repeat' first | refine go ?_ | refine idxS_ fun _ _ _ => ?_ | refine sp (fun _ => ?_) fun _ => ?_ | fail)
   refine CALLN.of (claimB_cal P9 G fun v10 h10 x10 r10 => ?_)
   have x1a : Exd h1 h10 := x19.trans x10
   have r10 : RIn h10 v10 (rowOf S.C S (-1)) := (r10 (fun _ => False) fun _ f => f.elim).rin
   rw [rowOf_none G (by omega)] at r10
   clear x10
   (repeat' first | refine go ?_ | refine idxS_ fun _ _ _ => ?_ | refine sp (fun _ => ?_) fun _ => ?_ | fail)
   exact k _ _ _ (gr1.trans (Grow.exd x1a)) (TB.exd x1a)
  have ei : ∀ R : List Int, R.getD (i : Int).toNat 0 = R.getD i 0 := fun R => by rw [Int.toNat_natCast]
  obtain ⟨bh, oh, wh, rh, ah, hih⟩ := R8.H.rowE (j := i) (by omega)
  obtain ⟨bc, oc, wc, rc, ac, hic⟩ := R8.C.rowE (j := i) (by omega)
  (repeat' first | refine go ?_ | ((refine RIn.idxS rP (by omega) fun b o gB => ?_; rw [ei] at gB)) | refine idxS_ fun _ _ _ => ?_ | refine sp (fun _ => ?_) fun _ => ?_ | fail)
  refine CALLN.of (heldB_cal P8 G fun v9 h9 x9 r9 _ => ?_)
  have x19 : Exd h1 h9 := x18.trans x9
  have x9 : Exd h8 h9 := x9
  have r9 : GSl (fun _ => False) intE h9 v9 (rowOf S.H S (S.P.getD i 0)) := r9
  rw [rowOf_at G hil] at r9
  have R9 := R1.exd x19
  have g9 := R9.g
  have P9 := P2.exd x19
  have o9 := r9.one
  have ah9 := ah.exd x9
  have ac9 := ac.exd x9
  have rP9 := R9.P.rin
  (repeat' first | refine go ?_ | (refine hih _ ?_) | refine idxS_ fun _ _ _ => ?_ | refine sp (fun _ => ?_) fun _ => ?_ | fail)
  refine CALLN.of (ints_cal r9.ints (rh.exd x9).rin (G.lenH _ (rowU_mem (by omega))) ?_)
  rw [decide_eq_true rfl]
  (repeat' first | refine go ?_ | ((refine RIn.idxS rP9 (by omega) fun b o gB => ?_; rw [ei] at gB)) | refine idxS_ fun _ _ _ => ?_ | refine sp (fun _ => ?_) fun _ => ?_ | fail)
  refine CALLN.of (claimB_cal P9 G fun v10 h10 x10 r10 => ?_)
  have x1a : Exd h1 h10 := x19.trans x10
  have x10 : Exd h9 h10 := x10
  have r10 : RIn h10 v10 (rowOf S.C S (S.P.getD i 0)) := (r10 (fun _ => False) fun _ f => f.elim).rin
  rw [rowOf_at G hil] at r10
  have R10 := R1.exd x1a
  have g10 := R10.g
  have o10 := r10.one
  have ac10 := (ac.exd x9).exd x10
  (repeat' first | refine go ?_ | (refine hic _ ?_) | refine idxS_ fun _ _ _ => ?_ | refine sp (fun _ => ?_) fun _ => ?_ | fail)
  refine CALLN.of (ints_cal r10 ((rc.exd x9).exd x10).rin (G.lenC _ (rowU_mem (by omega))) ?_)
  rw [decide_eq_true rfl]
  (repeat' first | refine go ?_ | refine idxS_ fun _ _ _ => ?_ | refine sp (fun _ => ?_) fun _ => ?_ | fail)
  exact ⟨rfl, i + 1, ⟨rfl, rfl, rfl, trivial⟩, ⟨(x8.trans x9).trans x10, hil⟩, by omega⟩
 obtain ⟨a, ea⟩ : ∃ a, S.W[j]? = some a := ⟨_, List.getElem?_eq_getElem hjl⟩
 obtain ⟨pid, us⟩ := a
 obtain ⟨q1, _⟩ := rowOk_split (G.w _ (List.mem_of_getElem? ea)).2
 obtain ⟨b1, o1, w1, rr1, a1, hi1⟩ := r7.pairE ea
 obtain ⟨b2, o2, w2, rr2, a2, hi2⟩ := R7.W.pairE ea
 have a11 : At1 h' b1 o1 (.int .i64 pid) := a1.at (j := 0) rfl
 have a12 : At1 h' b1 (o1 + 1) w1 := a1.at (j := 1) rfl
 have a21 : At1 h' b2 o2 (.int .i64 pid) := a2.at (j := 0) rfl
 have a22 : At1 h' b2 (o2 + 1) w2 := a2.at (j := 1) rfl
 have ow1 := rr1.one
 have ow2 := rr2.one
 (repeat' first | refine go ?_ | (refine r7.lenS ?_) | (refine hi1 _ ?_) | (refine hi2 _ ?_) | refine idxS_ fun _ _ _ => ?_ | refine sp (fun _ => ?_) fun _ => ?_ | fail)
 refine CALLN.of (ints_cal rr1.rin rr2.rin (by simp only at q1; omega) ?_)
 rw [decide_eq_true rfl]
 (repeat' first | refine go ?_ | refine idxS_ fun _ _ _ => ?_ | refine sp (fun _ => ?_) fun _ => ?_ | fail)
 exact ⟨rfl, j + 1, ⟨rfl, rfl, rfl, rfl, trivial⟩, ⟨rfl, hjl⟩, by omega⟩
end
section
variable {h : Heap} {Q : CVal → Heap → Prop}
theorem at_cal {v : CVal} {L : List Int} {k most : Int} (r : RIn h v L) (hk : 0 ≤ k ∧ k ≤ 1000) (hm : 1 ≤ most ∧ most ≤ 100000) (_hl : L.length ≤ 1000000000) (q : ∀ r : Int, 0 ≤ r → r < most → Q (.int .i64 r) h) : Cal tt 49 [v, .int .i64 k, .int .i64 most] h Q := by
 refine Cal.run rfl rfl rfl rfl ?_
 by_cases h1 : (L.length : Int) ≤ k
 ·(repeat' first | refine go ?_ | refine idxS_ fun _ _ _ => ?_ | refine sp (fun _ => ?_) fun _ => ?_ | fail)
  exact q _ (by omega) (by omega)
 have t1 := Int.tmod_lt_of_pos (L.getD k.toNat 0) (show 0 < most by omega)
 have t2 := Int.lt_tmod_of_pos (L.getD k.toNat 0) (show 0 < most by omega)
 by_cases ht : (L.getD k.toNat 0).tmod most < 0
 ·(repeat' first | refine go ?_ | refine idxS_ fun _ _ _ => ?_ | refine sp (fun _ => ?_) fun _ => ?_ | fail)
  exact q _ (by omega) (by omega)
 ·(repeat' first | refine go ?_ | refine idxS_ fun _ _ _ => ?_ | refine sp (fun _ => ?_) fun _ => ?_ | fail)
  exact q _ (by omega) (by omega)
theorem turn_cal {x n : Int} (hx : -9223372036854775808 ≤ x ∧ x ≤ 9223372036854775807) (hn : 1 ≤ n ∧ n ≤ 8) (q : ∀ (kind pid a b : Int) (N : Nat) h', Exd h h' → kind ≠ 0 → pid ≤ 9223372036854775807 → h.next ≤ N → N < h'.next → h'.get N = some (.cells [.int .i64 a, .int .i64 b] true none) → Q (.agg [.int .i64 kind, .int .i64 pid, .slice N 0 2 2]) h') : Cal tt 16 [.int .i64 x, .int .i64 n] h Q := by
 obtain ⟨N, hN⟩ : ∃ N, h.next = N := ⟨_, rfl⟩
 refine Cal.run rfl rfl rfl rfl ?_
 by_cases hx0 : x < 0
 ·have m1 := Int.emod_lt_of_pos ((0 - (x + 1)) / 2) (show 0 < n by omega)
  have m2 := Int.emod_nonneg ((0 - (x + 1)) / 2) (show n ≠ 0 by omega)
  by_cases h15 : (0 - (x + 1)) / 1024 % 16 = 15
  ·(repeat' first | refine go ?_ | refine idxS_ fun _ _ _ => ?_ | refine sp (fun _ => ?_) fun _ => ?_ | fail)
   refine q _ _ _ _ (N + 1) _ (by exact exd_) (by omega) (by omega) (by omega) (by exact lt_) (by exact get_)
  ·(repeat' first | refine go ?_ | refine idxS_ fun _ _ _ => ?_ | refine sp (fun _ => ?_) fun _ => ?_ | fail)
   refine q _ _ _ _ (N + 1) _ (by exact exd_) (by omega) (by omega) (by omega) (by exact lt_) (by exact get_)
 ·have m1 := Int.emod_lt_of_pos (x / 2) (show 0 < n by omega)
  have m2 := Int.emod_nonneg (x / 2) (show n ≠ 0 by omega)
  by_cases h15 : x / 1024 % 16 = 15
  ·(repeat' first | refine go ?_ | refine idxS_ fun _ _ _ => ?_ | refine sp (fun _ => ?_) fun _ => ?_ | fail)
   refine q _ _ _ _ (N + 1) _ (by exact exd_) (by omega) (by omega) (by omega) (by exact lt_) (by exact get_)
  ·(repeat' first | refine go ?_ | refine idxS_ fun _ _ _ => ?_ | refine sp (fun _ => ?_) fun _ => ?_ | fail)
   refine q _ _ _ _ (N + 1) _ (by exact exd_) (by omega) (by omega) (by omega) (by exact lt_) (by exact get_)
end
theorem argSl_rsl {h : Heap} {v : CVal} {l : Nat} {z : List Int} {Z : Nat → Prop} (s : ArgSl h v .i64 l z) (hz : ∀ i, Z i → h.next ≤ i) : RSl Z intE h v (z.take l) := by
 obtain ⟨h1, _, h3⟩ := s
 have hl : (z.take l).length = l := by rw [List.length_take]; omega
 rcases h3 with ⟨rfl, rfl⟩ | ⟨i, rfl, hi, g⟩
 ·exact .inl ⟨rfl, by simp⟩
 ·refine .inr ⟨i, 0, z.length, by rw [hl], by rw [hl]; exact h1, hi, fun h => by have := hz i h; omega, ?_⟩
  rcases g with rfl | g
  ·exact .inl (by simp)
  ·refine .inr ⟨_, _, _, g, fun j hj => ?_⟩
   rw [hl] at hj
   show ((z.map (CVal.int .i64)).drop (0 + j * 1)).take 1 = [.int .i64 _]
   rw [Nat.zero_add, Nat.mul_one, List.getElem_take, List.drop_eq_getElem_cons (by rw [List.length_map]; omega), List.getElem_map]
   rfl
theorem i64_le {n : Int} (w : (Lit.int .i64 n).wf = true) : -9223372036854775808 ≤ n ∧ n ≤ 9223372036854775807 := by
 have w2 : (decide (IntKind.i64.min ≤ n) && decide (n ≤ IntKind.i64.max)) = true := w
 rw [Bool.and_eq_true, decide_eq_true_eq, decide_eq_true_eq] at w2
 have e1 : IntKind.i64.min = -9223372036854775808 := by decide
 have e2 : IntKind.i64.max = 9223372036854775807 := by decide
 omega
theorem rin2 {h : Heap} {N : Nat} {a b : Int} {wr : Bool} {opn : Option Nat} (g : h.get N = some (.cells [.int .i64 a, .int .i64 b] wr opn)) (hN : N < h.next) : RIn h (.slice N 0 2 2) [a, b] :=
 .inr ⟨N, 0, 2, rfl, hN, .inr ⟨_, _, _, g, fun j hj => by
  have hj : j < 2 := hj
  rcases (show j = 0 ∨ j = 1 by omega) with rfl | rfl <;> rfl⟩⟩
theorem rsl2 {Z : Nat → Prop} {h : Heap} {N : Nat} {a b : Int} {wr : Bool} {opn : Option Nat} (g : h.get N = some (.cells [.int .i64 a, .int .i64 b] wr opn)) (hN : N < h.next) (hz : ¬ Z N) : RSl Z intE h (.slice N 0 2 2) [a, b] :=
 (rin2 g hN).rsl (fun i hi => by rw [isB_slice] at hi; rw [hi]; exact hz) fun _ _ _ _ e => by simp only [CVal.slice.injEq] at e; omega
theorem admitS_T (S : AS) (pid : Int) (c : List Int) : (admitS S pid c).1.T = S.T ∧ (admitS S pid c).1.cl = S.cl := by
 rcases admitS_cases S pid c with h | ⟨h, _⟩
 ·rw [h]; exact ⟨rfl, rfl⟩
 ·rw [h]; exact ⟨rfl, rfl⟩
structure MadeI (h₀ : Heap) (cl : Bool) (t0 t1 : Int) (N : Nat) (Z F : Nat → Prop) (h : Heap) (p q : Nat) (S : AS) : Prop where
 T : Two Z F h p q S
 L : LawS S
 W : S.W = []
 t : S.T = [t0, t1]
 c : S.cl = cl
 x : Exd h₀ h
 z : ∀ i, Z i → h₀.next ≤ i
 g : h.get N = some (.cells [.int .i64 t0, .int .i64 t1] true none)
 n : ¬ Z N
 l : N < h.next
section
variable {h : Heap} {Q : CVal → Heap → Prop}
set_option maxHeartbeats 1000000 in
theorem made_cal {cl : Bool} {n : Int} {vl : CVal} {L : List Int} (hn : 1 ≤ n ∧ n ≤ 8) (r : RIn h vl L) (ll : L.length ≤ 1000000000)
 (k : ∀ p q h' Z F S, TwoB Z F h' p q S → LawS S → S.T.length = 2 → S.cl = cl → Exd h h' → (∀ i, Z i → h.next ≤ i) → Q (.tuple [.ptr p 0, .ptr q 0]) h') : Cal tt 15 [.bool cl, .int .i64 n, vl] h Q := by
 obtain ⟨N, hN⟩ : ∃ N, h.next = N := ⟨_, rfl⟩
 refine Cal.run rfl rfl rfl rfl ?_
 (repeat' first | refine go ?_ | refine idxS_ fun _ _ _ => ?_ | refine sp (fun _ => ?_) fun _ => ?_ | fail)
 refine CALLN.of (at_cal r (by omega) (by omega) ll fun r0 a1 a2 => ?_)
 (repeat' first | refine go ?_ | refine idxS_ fun _ _ _ => ?_ | refine sp (fun _ => ?_) fun _ => ?_ | fail)
 refine CALLN.of (at_cal r (by omega) (by omega) ll fun r1 b1 b2 => ?_)
 have g0 : (h.new (.cells [.int .i64 (1 + r0), .int .i64 (1 + r1)] true none)).get N = some (.cells [.int .i64 (1 + r0), .int .i64 (1 + r1)] true none) := by exact get_
 have n0 : N < (h.new (.cells [.int .i64 (1 + r0), .int .i64 (1 + r1)] true none)).next := by exact lt_
 have x0 : Exd h (h.new (.cells [.int .i64 (1 + r0), .int .i64 (1 + r1)] true none)) := Exd.new (Exd.refl _)
 have ht : totU [1 + r0, 1 + r1] = true := by
  simp only [totU, mayU, List.all_cons, List.all_nil, Bool.and_true, Bool.and_eq_true, decide_eq_true_eq, Bool.not_eq_true', decide_eq_false_iff_not, List.mem_cons, List.not_mem_nil, or_false, List.length_cons, List.length_nil]
  omega
 (repeat' first | refine go ?_ | refine idxS_ fun _ _ _ => ?_ | refine sp (fun _ => ?_) fun _ => ?_ | fail)
 generalize h.new (.cells [.int .i64 (1 + r0), .int .i64 (1 + r1)] true none) = hx at *
 have lx := x0.le
 refine CALLN.of (anewP_cal (rin2 g0 n0) (Nat.le_of_ble_eq_true rfl) (fun e => by rw [ht] at e; simp at e) fun _ p h2 x2 lp lp' PN2 => ?_)
 have x2 : Exd hx h2 := x2
 have g2 := x2.skip n0 g0
 have n2 := Nat.lt_of_lt_of_le n0 x2.le
 (repeat' first | refine go ?_ | refine idxS_ fun _ _ _ => ?_ | refine sp (fun _ => ?_) fun _ => ?_ | fail)
 refine CALLN.of (anewR_cal (rin2 g2 n2) (Nat.le_of_ble_eq_true rfl) (fun e => by rw [ht] at e; simp at e) fun _ q h3 x3 lq RRf => ?_)
 have x3 : Exd h2 h3 := x3
 have lq : h2.next ≤ q := lq
 have l2 := x2.le
 have l3 := x3.le
 have R3 := RRf (fun i => i = p ∨ i = q) (.inr rfl) fun i hi => hi.imp (fun e => by rw [e]; exact lp') id
 have q3 : q < h3.next := by
  obtain ⟨_, _, _, _, _, _, R⟩ := R3
  exact R.lt
 have P3 : PN (fun i => i = p ∨ i = q) h3 (fun i => i = p) p (newS [1 + r0, 1 + r1] cl) := PN2.frame (U := fun _ => False) ⟨x3.le, fun i hi _ => x3.get i hi⟩ (fun _ _ f => f.elim) (fun i hi h => h.elim id fun e => by omega) (fun _ h => .inl h) fun i h => h.elim (fun e => by omega) fun e => by omega
 have I0 : MadeI h cl (1 + r0) (1 + r1) N (fun i => i = p ∨ i = q) (fun i => i = p) h3 p q (newS [1 + r0, 1 + r1] cl) :=
  ⟨⟨.inr P3, R3, by omega, .inr rfl, GoodS.new ht⟩, LawS.new ht, rfl, rfl, rfl, x0.trans (x2.trans x3), fun i h => h.elim (fun e => by omega) fun e => by omega, x3.skip n2 g2, fun h => h.elim (fun e => by omega) fun e => by omega, by omega⟩
 clear x2 x3 PN2 P3 g0 g2 R3 RRf
 (repeat' first | refine go ?_ | refine idxS_ fun _ _ _ => ?_ | refine sp (fun _ => ?_) fun _ => ?_ | fail)
 refine loopC (fun y : Nat × (Nat → Prop) × (Nat → Prop) × AS => [(1, .int .i64 n), (2, vl), (8, .slice N 0 2 2), (9, .ptr p 0), (11, .ptr q 0), (13, .int .i64 ((y.1 + 1 : Nat) : Int))]) (fun y h' => MadeI h cl (1 + r0) (1 + r1) N y.2.1 y.2.2.1 h' p q y.2.2.2 ∧ (1 ≤ y.1 → PF y.2.1 h' y.2.2.1 p y.2.2.2) ∧ (y.1 : Int) ≤ n) (fun y => n.toNat - y.1) (0, fun i => i = p ∨ i = q, fun i => i = p, newS [1 + r0, 1 + r1] cl) ⟨rfl, rfl, rfl, rfl, rfl, rfl, trivial⟩ ⟨I0, fun h => absurd h (Nat.not_lt_zero _), by simp only; omega⟩ ?_
 rintro ⟨i, Z, F, S⟩ ρ h' ⟨I, B, hi⟩
 simp only at I B hi ⊢
 have gN := I.g
 by_cases hin : (i : Int) < n
 rotate_left
 ·(repeat' first | refine go ?_ | refine idxS_ fun _ _ _ => ?_ | refine sp (fun _ => ?_) fun _ => ?_ | fail)
  exact k p q h' Z F S ⟨B (by omega), I.T.R, I.T.n, I.T.z, I.T.G⟩ I.L (by rw [I.t]; rfl) I.c I.x I.z
 have rl := r.exd I.x
 have G := I.T.G
 (repeat' first | refine go ?_ | refine idxS_ fun _ _ _ => ?_ | refine sp (fun _ => ?_) fun _ => ?_ | fail)
 refine CALLN.of (at_cal rl (by omega) (by omega) ll fun c0 c1 c2 => ?_)
 (repeat' first | refine go ?_ | refine idxS_ fun _ _ _ => ?_ | refine sp (fun _ => ?_) fun _ => ?_ | fail)
 refine CALLN.of (at_cal rl (by omega) (by omega) ll fun d0 d1 d2 => ?_)
 obtain ⟨Nc, hNc⟩ : ∃ N, h'.next = N := ⟨_, rfl⟩
 have xc : Exd h' (h'.new (.cells [.int .i64 c0, .int .i64 d0] true none)) := Exd.new (Exd.refl _)
 have gc : (h'.new (.cells [.int .i64 c0, .int .i64 d0] true none)).get Nc = some (.cells [.int .i64 c0, .int .i64 d0] true none) := by exact get_
 have rc : RSl Z intE (h'.new (.cells [.int .i64 c0, .int .i64 d0] true none)) (.slice Nc 0 2 2) [c0, d0] := rsl2 gc (by exact lt_) fun h => by have := I.T.zl Nc h; omega
 have hok : rowOk S.T.length [c0, d0] = true := by
  rw [I.t]
  refine rowOk_of rfl ?_
  simp only [mayU, List.all_cons, List.all_nil, Bool.and_true, Bool.and_eq_true, decide_eq_true_eq]
  omega
 have Tc := I.T.exd xc
 have hp64 : ((i + 1 : Nat) : Int) ≤ 9223372036854775807 := by omega
 have LA := I.L.admit (pid := ((i + 1 : Nat) : Int)) (c := [c0, d0]) hp64 I.W
 have TA := admitS_T S ((i + 1 : Nat) : Int) [c0, d0]
 (repeat' first | refine go ?_ | refine idxS_ fun _ _ _ => ?_ | refine sp (fun _ => ?_) fun _ => ?_ | fail)
 refine CALLN.of (admitQ_cal Tc.P G rc (Nat.le_of_ble_eq_true rfl) hp64 fun h5 Z5 F5 gr5 P5 pf5 => ?_)
 have P6 := pf5 (by omega) hok
 have n5 := gr5.notF I.T.n (by have := I.T.zl q I.T.z; have := xc.le; omega)
 have z5 := gr5.z q I.T.z
 (repeat' first | refine go ?_ | refine idxS_ fun _ _ _ => ?_ | refine sp (fun _ => ?_) fun _ => ?_ | fail)
 refine CALLN.of (admitA_cal (gr5.rr Tc.P.fz P5.zl I.T.n Tc.R) G (gr5.rsl Tc.P.fz rc) (Nat.le_of_ble_eq_true rfl) hp64 fun h6 u6 R6 => ?_)
 (repeat' first | refine go ?_ | refine idxS_ fun _ _ _ => ?_ | refine sp (fun _ => ?_) fun _ => ?_ | fail)
 have u4 := gr5.u
 have lc := xc.le
 have l5 := u4.le
 have l6 := u6.le
 have hq := I.z q I.T.z
 have zn : ∀ j, Z5 j → Z j ∨ h'.next ≤ j := fun j hj => (gr5.zn j hj).imp id fun h => by omega
 have PF6 : PF Z5 h6 F5 p (admitS S ((i + 1 : Nat) : Int) [c0, d0]).1 := P6.frame u6 (fun i _ e => by rw [e]; exact ⟨z5, n5⟩) (fun _ _ h => h) (fun _ h => h) fun i hi => Nat.lt_of_lt_of_le (P6.zl i hi) u6.le
 refine ⟨rfl, (i + 1, Z5, F5, (admitS S ((i + 1 : Nat) : Int) [c0, d0]).1), ⟨rfl, rfl, rfl, rfl, rfl, rfl, trivial⟩, ⟨⟨⟨.inl PF6, R6, n5, z5, LA.1.G⟩, LA.1, LA.2, TA.1.trans I.t, TA.2.trans I.c, ?_, fun j hj => (zn j hj).elim (I.z j) fun h => by have := I.x.le; omega, ?_, fun h => (zn N h).elim I.n fun h => by have := I.l; omega, by have := I.l; omega⟩, fun _ => PF6, by simp only; omega⟩, by simp only; omega⟩
 ·exact ⟨by have := I.x.le; omega, fun j hj => (u6.get j (by have := I.x.le; omega) fun e => by omega).trans ((u4.get j (by have := I.x.le; omega) fun e => by have := I.z j (I.T.P.fz j e); omega).trans ((xc.get j (by have := I.x.le; omega)).trans (I.x.get j hj)))⟩
 ·have := I.l
  exact (u6.get N (by omega) fun e => I.n (by rw [e]; exact I.T.z)).trans ((u4.get N (by omega) fun e => I.n (I.T.P.fz N e)).trans ((xc.get N (by omega)).trans I.g))
end
theorem scanL_T : ∀ {xs : List (Int × List Int)} {S : AS} {left : List (Int × List Int)} {out : List Int}, (scanL xs S left out).1.T = S.T ∧ (scanL xs S left out).1.cl = S.cl ∧ (scanL xs S left out).1.P = S.P ∧ (scanL xs S left out).1.C = S.C
 | [], _, _, _ => ⟨rfl, rfl, rfl, rfl⟩
 | x :: xs, S, left, out => by
   rw [scanL]
   split
   ·obtain ⟨a, b, _, d, e⟩ := grantS_P S x
    obtain ⟨f, g, i, j⟩ := scanL_T (xs := xs) (S := grantS S x) (left := left) (out := out ++ [x.1])
    exact ⟨f.trans b, g.trans e, i.trans a, j.trans d⟩
   ·exact scanL_T
theorem playS_T {S : AS} {kind pid : Int} {u : List Int} (k0 : kind ≠ 0) : (playS S kind pid u).T = S.T ∧ (playS S kind pid u).cl = S.cl := by
 rw [playS, if_neg k0]
 split
 ·rcases askS_cases S pid u with ⟨h, _⟩ | ⟨k, _, _, _, _, h⟩
  ·rw [h]; exact ⟨rfl, rfl⟩
  ·rw [h]; exact ⟨scanL_T.1, scanL_T.2.1⟩
 split
 ·rcases giveS_cases S pid u with ⟨h, _⟩ | ⟨k, _, _, _, h⟩
  ·rw [h]; exact ⟨rfl, rfl⟩
  ·rw [h]; exact ⟨scanL_T.1, scanL_T.2.1⟩
 ·rcases leaveS_cases S pid with ⟨_, h⟩ | ⟨k, _, h⟩
  ·rw [h]; exact ⟨rfl, rfl⟩
  ·rw [h]; exact ⟨scanL_T.1, scanL_T.2.1⟩
theorem LawS.play {S : AS} (I : LawS S) {kind pid : Int} {u : List Int} (k0 : kind ≠ 0) : LawS (playS S kind pid u) := by
 rw [playS, if_neg k0]
 split
 ·exact I.ask
 split
 ·exact I.give
 ·exact I.leave
structure LawI (h₀ : Heap) (cl : Bool) (Z F : Nat → Prop) (h : Heap) (p q : Nat) (S : AS) : Prop where
 T : TwoB Z F h p q S
 L : LawS S
 t : S.T.length = 2
 c : S.cl = cl
 x : Exd h₀ h
 z : ∀ i, Z i → h₀.next ≤ i
section
variable {h₀ h h' : Heap} {cl : Bool} {Z F Z' F' : Nat → Prop} {p q : Nat} {S S' : AS}
theorem LawI.exd (I : LawI h₀ cl Z F h p q S) (x : Exd h h') : LawI h₀ cl Z F h' p q S := ⟨I.T.exd x, I.L, I.t, I.c, I.x.trans x, I.z⟩
theorem LawI.grow (I : LawI h₀ cl Z F h p q S) (g : Grow h Z (qF F q) h' Z' (qF F' q)) (T' : TwoB Z' F' h' p q S') (L : LawS S') (t : S'.T = S.T ∧ S'.cl = S.cl) : LawI h₀ cl Z' F' h' p q S' := by
 have l := I.x.le
 refine ⟨T', L, by rw [t.1]; exact I.t, t.2.trans I.c, ⟨by have := g.u.le; omega, fun i hi => (g.u.get i (by omega) fun h => ?_).trans (I.x.get i hi)⟩, fun i hi => ?_⟩
 ·have := I.z i (I.T.two.fz i h)
  omega
 ·rcases g.zn i hi with h | ⟨_, h⟩
  ·exact I.z i h
  ·omega
theorem LawI.fresh (I : LawI h₀ cl Z F h p q S) {N : Nat} (h1 : h.next ≤ N) : ¬ Z N := fun hz => by have := I.T.two.zl N hz; omega
end
theorem LawI.pv {h₀ h : Heap} {cl : Bool} {Z F : Nat → Prop} {p q : Nat} {S : AS} (I : LawI h₀ cl Z F h p q S) : ∃ h₁ vT vA vS mH mC HL CL, PV h₁ Z h p S vT vA vS mH mC HL CL := by
 obtain ⟨a, b, c, d, e, f, g, i, P, _⟩ := I.T.P.e
 exact ⟨a, b, c, d, e, f, g, i, P⟩
end Go.Proofs.YtncmoaggkdlkhaaGreat.Cm
