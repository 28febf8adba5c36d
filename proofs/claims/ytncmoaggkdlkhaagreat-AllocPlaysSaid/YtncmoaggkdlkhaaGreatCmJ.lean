/-
  The clean machine, and what the law's functions do in it: part J of this claim's own texts. No conditions.
-/
import Derived.Test.YtncmoaggkdlkhaaGreatCmI
import Derived.Test.YtncmoaggkdlkhaaGreatCmF
import Derived.Test.YtncmoaggkdlkhaaGreatCmH
namespace Go.Proofs.YtncmoaggkdlkhaaGreat.Cm
open Go.RowKit Go.IntWalk
attribute [local irreducible] Heap.set Heap.new Heap.kill Heap.get Heap.room Cal WP
def RGl {α : Type} (Z : Nat → Prop) (E : El α) (h : Heap) (v : CVal) (L : List α) : Prop :=
 (v = .nilSlice ∧ L = []) ∨ ∃ i o c, v = .slice i o L.length c ∧ L.length ≤ c ∧ i < h.next ∧ (L = [] ∨ ∃ cs wr opn, h.get i = some (.cells cs wr opn) ∧ ∀ j (hj : j < L.length), E.ok (fun k => Z k ∨ isB v k) h (chunk E.sz o cs j) L[j])
section
variable {α : Type} {Z Z' S : Nat → Prop} {E : El α} {h h' : Heap} {v : CVal} {L : List α}
theorem GSl.rgl (s : GSl Z E h v L) : RGl Z E h v L := by
 obtain ⟨s1, cs, s2, s3⟩ := s
 rcases s2 with ⟨e1, e2, _⟩ | ⟨b, wr, opn, rfl, _, g, _⟩
 ·exact .inl ⟨e1, List.length_eq_zero_iff.1 e2⟩
 ·exact .inr ⟨b, 0, _, rfl, Nat.le_refl _, s1 b (isB_slice.2 rfl), .inr ⟨cs, wr, opn, g, s3⟩⟩
theorem RGl.upd (s : RGl Z E h v L) (u : Upd S h h') (hs : ∀ i, i < h.next → S i → Z i ∧ ¬ isB v i) : RGl Z E h' v L := by
 rcases s with s | ⟨i, o, c, e, hc, lt, r⟩
 ·exact .inl s
 ·exact .inr ⟨i, o, c, e, hc, Nat.lt_of_lt_of_le lt u.le, r.imp id fun ⟨cs, wr, opn, g, a⟩ => ⟨cs, wr, opn, (u.get i lt fun h => (hs i lt h).2 ⟨_, _, _, e⟩).trans g, fun j hj => E.upd (u.sub fun k hk h => .inl (hs k hk h).1) (a j hj)⟩⟩
theorem RGl.exd (s : RGl Z E h v L) (u : Exd h h') : RGl Z E h' v L := s.upd (S := fun _ => False) ⟨u.le, fun i hi _ => u.get i hi⟩ fun _ _ f => f.elim
theorem RGl.sub (s : RGl Z E h v L) (u : ∀ i, i < h.next → Z' i → Z i) : RGl Z' E h v L := s.imp id fun ⟨i, o, c, e, hc, lt, r⟩ => ⟨i, o, c, e, hc, lt, r.imp id fun ⟨cs, wr, opn, g, a⟩ => ⟨cs, wr, opn, g, fun j hj => E.sub (fun k hk h => h.imp (u k hk) id) (a j hj)⟩⟩
theorem RGl.read (s : RGl Z E h v L) (hz : ∀ i, isB v i → ¬ Z i) : RSl Z E h v L := s.imp id fun ⟨i, o, c, e, hc, lt, r⟩ => ⟨i, o, c, e, hc, lt, hz i ⟨_, _, _, e⟩, r.imp id fun ⟨cs, wr, opn, g, a⟩ => ⟨cs, wr, opn, g, fun j hj => E.sub (fun _ _ h => .inl h) (a j hj)⟩⟩
theorem RGl.lenS {K : Int → Prop} (s : RGl Z E h v L) (k : K L.length) : lenS v K := by
 rcases s with ⟨rfl, rfl⟩ | ⟨i, o, c, rfl, _⟩ <;> exact k
theorem RGl.one (s : RGl Z E h v L) : v.one = true := by
 rcases s with ⟨rfl, rfl⟩ | ⟨i, o, c, rfl, _⟩ <;> rfl
theorem RGl.atE {j : Nat} (s : RGl Z E h v L) (hj : j < L.length) : ∃ b o xs, E.ok (fun i => Z i ∨ isB v i) h xs L[j] ∧ AtN h b o xs ∧ ∀ K : Nat → Nat → Prop, K b o → Cm.idxS E.sz v (j : Int) K := by
 rcases s with ⟨rfl, rfl⟩ | ⟨b, o, c, rfl, hc, hb, ra⟩
 ·simp at hj
 ·rcases ra with rfl | ⟨cs, wr, opn, g, a⟩
  ·simp at hj
  ·have := a j hj
   have hl : (chunk E.sz o cs j).length = E.sz := E.len this
   exact ⟨b, o + j * E.sz, _, this, ⟨hb, cs, wr, opn, g, by rw [hl]; rfl⟩, fun K q => ⟨by omega, by rw [Int.toNat_natCast]; exact q⟩⟩
theorem RGl.pairE {M : List (Int × List α)} {j : Nat} {p : Int} {us : List α} (s : RGl Z (npE E) h v M) (e : M[j]? = some (p, us)) : ∃ b o w, RSl (fun i => Z i ∨ isB v i) E h w us ∧ AtN h b o [.int .i64 p, w] ∧ ∀ K : Nat → Nat → Prop, K b o → Cm.idxS 2 v (j : Int) K := by
 obtain ⟨hj, e⟩ := List.getElem?_eq_some_iff.1 e
 obtain ⟨b, o, xs, ⟨c, d, e1, e2, w, e3, r⟩, a, q⟩ := s.atE hj
 rw [e] at e2 r
 have e2 : c = [.int .i64 p] := e2
 subst e1 e2 e3
 exact ⟨b, o, w, r, a, q⟩
end
theorem WSl.rsl {Z : Nat → Prop} {h₀ h : Heap} {v : CVal} {W : List Int} (s : WSl h₀ h v W) (hz : ∀ i, Z i → i < h₀.next) : RSl Z intE h v W := s.rin.rsl (fun b hb h => by
 have := hz b h
 rcases s with ⟨rfl, _⟩ | ⟨b', e, h3, _⟩
 ·exact isB_nil hb
 ·rw [e, isB_slice] at hb; omega) fun i o l c e => by
 rcases s with ⟨rfl, _⟩ | ⟨b', e', _⟩
 ·simp at e
 ·rw [e'] at e
  simp only [CVal.slice.injEq] at e
  omega
def look0 (x : Int × Int) (L : List ((Int × Int) × CVal)) : Int := match lookA x L with
 | some (.int .i64 n) => n
 | _ => 0
def hAt (S : AS) (pid c : Int) : Int := match posI S.P pid with
 | some k => atU (rowU S.H k) c.toNat
 | none => 0
structure PV (h₀ : Heap) (Z : Nat → Prop) (h : Heap) (p : Nat) (S : AS) (vT vA vS : CVal) (mH mC : Nat) (HL : List ((Int × Int) × CVal)) (CL : List (Int × CVal)) : Prop where
 zp : Z p
 zh : Z mH
 zc : Z mC
 za : ∀ b, isB vA b → Z b
 zs : ∀ b, isB vS b → Z b
 zl : ∀ i, Z i → i < h.next
 n1 : p ≠ mH ∧ p ≠ mC ∧ mH ≠ mC
 n2 : ∀ b, isB vA b → b ≠ p ∧ b ≠ mH ∧ b ≠ mC ∧ ¬ isB vS b
 n3 : ∀ b, isB vS b → b ≠ p ∧ b ≠ mH ∧ b ≠ mC
 g : h.get p = some (.cells [vT, .bool S.cl, .int .u32 1, .int .i32 0, .int .u32 0, vA, .map mH, .map mC, vS] true none)
 T : RSl Z intE h vT S.T
 A : WSl h₀ h vA S.A
 H : MapAt h mH keyP HL
 C : MapAt h mC keyI CL
 W : RGl Z askE h vS S.W
 hk : ∀ e ∈ HL, ∃ n : Int, e.2 = .int .i64 n ∧ -1000000 ≤ n ∧ n ≤ 1000000
 hr : ∀ e ∈ HL, e.1.1 ∈ S.P ∧ 0 ≤ e.1.2 ∧ e.1.2 < 6
 hv : ∀ pid c : Int, 0 ≤ c → look0 (pid, c) HL = hAt S pid c
 ck : (CL.map (·.1)).Perm S.P
 cv : ∀ k, k < S.P.length → ∃ w, lookA (S.P.getD k 0) CL = some w ∧ RSl Z intE h w (rowU S.C k)
section
variable {h₀ : Heap} {Z : Nat → Prop} {h h' : Heap} {p : Nat} {S : AS} {vT vA vS : CVal} {mH mC : Nat} {HL : List ((Int × Int) × CVal)} {CL : List (Int × CVal)}
theorem PV.lt (P : PV h₀ Z h p S vT vA vS mH mC HL CL) : p < h.next := P.zl p P.zp
theorem PV.exd (P : PV h₀ Z h p S vT vA vS mH mC HL CL) (x : Exd h h') : PV h₀ Z h' p S vT vA vS mH mC HL CL :=
 ⟨P.zp, P.zh, P.zc, P.za, P.zs, fun i hi => Nat.lt_of_lt_of_le (P.zl i hi) x.le, P.n1, P.n2, P.n3, (x.get p P.lt).trans P.g, P.T.exd x, P.A.exd x, P.H.of_get (x.get _ (P.zl _ P.zh)), P.C.of_get (x.get _ (P.zl _ P.zc)), P.W.exd x, P.hk, P.hr, P.hv, P.ck, fun k hk => by
  obtain ⟨w, e, r⟩ := P.cv k hk
  exact ⟨w, e, r.exd x⟩⟩
theorem PV.mem (P : PV h₀ Z h p S vT vA vS mH mC HL CL) (x : Int) : (lookA x CL).isSome = true ↔ x ∈ S.P := by
 rw [← P.ck.mem_iff]
 cases h : lookA x CL with
 | none => simp only [Option.isSome_none, Bool.false_eq_true, false_iff]; exact lookA_mem.1 h
 | some v =>
   simp only [Option.isSome_some, true_iff]
   refine Classical.byContradiction fun hn => ?_
   rw [lookA_mem.2 hn] at h
   simp at h
end
theorem bload_cal {h : Heap} {i o : Nat} {n : Int} {vs : List CVal} {wr : Bool} {opn : Option Nat} {Q : CVal → Heap → Prop} (g : h.get i = some (.cells vs wr opn)) (e : vs[o]? = some (.int .u32 n)) (k : Q (.bool (decide (n ≠ 0))) h) : Cal tt 96 [.ptr i o] h Q := by
 refine Cal.run rfl rfl rfl rfl ?_
 by_cases hn : n = 0
 ·rw [decide_eq_false (by omega)] at k
  (repeat' first | refine go ?_ | (refine OPN.aload rfl g e ?_) | refine idxS_ fun _ _ _ => ?_ | refine sp (fun _ => ?_) fun _ => ?_ | fail)
  exact k
 ·rw [decide_eq_true hn] at k
  (repeat' first | refine go ?_ | (refine OPN.aload rfl g e ?_) | refine idxS_ fun _ _ _ => ?_ | refine sp (fun _ => ?_) fun _ => ?_ | fail)
  exact k
theorem begB_cal {h₀ : Heap} {Z : Nat → Prop} {h : Heap} {p : Nat} {S : AS} {vT vA vS : CVal} {mH mC : Nat} {HL : List ((Int × Int) × CVal)} {CL : List (Int × CVal)} {Q : CVal → Heap → Prop} (P : PV h₀ Z h p S vT vA vS mH mC HL CL) (k : ∀ h', Exd h h' → Q (.tuple []) h') : Cal tt 50 [.ptr p 0] h Q := by
 refine Cal.run rfl rfl rfl rfl ?_
 have g := P.g
 have hp := P.lt
 obtain ⟨N, hN⟩ : ∃ N, h.next = N := ⟨_, rfl⟩
 (repeat' first | refine go ?_ | refine idxS_ fun _ _ _ => ?_ | refine sp (fun _ => ?_) fun _ => ?_ | fail)
 refine CALLN.of (Cal.run rfl rfl rfl rfl ?_)
 (repeat' first | refine go ?_ | refine idxS_ fun _ _ _ => ?_ | refine sp (fun _ => ?_) fun _ => ?_ | fail)
 refine CALLN.of (bload_cal (i := p) (o := 2) (by exact get_) rfl ?_)
 (repeat' first | refine go ?_ | refine idxS_ fun _ _ _ => ?_ | refine sp (fun _ => ?_) fun _ => ?_ | fail)
 exact k _ (by exact exd_)
theorem inB_cal {h₀ : Heap} {Z : Nat → Prop} {h : Heap} {p : Nat} {S : AS} {vT vA vS : CVal} {mH mC : Nat} {HL : List ((Int × Int) × CVal)} {CL : List (Int × CVal)} {x : Int} {Q : CVal → Heap → Prop} (P : PV h₀ Z h p S vT vA vS mH mC HL CL) (k : ∀ h', Exd h h' → Q (.bool (decide (x ∈ S.P))) h') : Cal tt 53 [.ptr p 0, .int .i64 x] h Q := by
 refine Cal.run rfl rfl rfl rfl ?_
 (repeat' first | refine go ?_ | refine idxS_ fun _ _ _ => ?_ | refine sp (fun _ => ?_) fun _ => ?_ | fail)
 refine CALLN.of (begB_cal P fun h1 x1 => ?_)
 have P1 := P.exd x1
 have g1 := P1.g
 obtain ⟨st, gc, sc, nc⟩ := P1.C
 have hm := P.mem x
 cases hl : lookA x CL with
 | none =>
   rw [decide_eq_false (by rw [← hm, hl]; simp)] at k
   (repeat' first | refine go ?_ | (refine lkNT KeyE.int hl ?_) | refine idxS_ fun _ _ _ => ?_ | refine sp (fun _ => ?_) fun _ => ?_ | fail)
   exact k _ x1
 | some w =>
   have hx : x ∈ S.P := hm.1 (by rw [hl]; rfl)
   rw [decide_eq_true hx] at k
   have ow : w.one = true := by
    obtain ⟨kk, hk, e⟩ := List.getElem_of_mem hx
    obtain ⟨w', e', r⟩ := P.cv kk hk
    rw [List.getD_eq_getElem?_getD, List.getElem?_eq_getElem hk] at e'
    simp only [Option.getD_some, e, hl, Option.some.injEq] at e'
    subst e'
    exact r.one
   (repeat' first | refine go ?_ | (refine lkT KeyE.int hl ?_) | refine idxS_ fun _ _ _ => ?_ | refine sp (fun _ => ?_) fun _ => ?_ | fail)
   exact k _ x1
def rowOf (M : List (List Int)) (S : AS) (x : Int) : List Int := match posI S.P x with
 | some k => rowU M k
 | none => []
theorem ofJ_succ (n : Nat) (f : Nat → Int) : ofJ (n + 1) f = ofJ n f ++ [f n] := by simp [ofJ, List.range_succ]
theorem posI_of {P : List Int} {x : Int} (h : x ∈ P) : ∃ k, posI P x = some k := by
 cases e : posI P x with
 | none => exact absurd h (posI_mem.1 e)
 | some k => exact ⟨k, rfl⟩
section
variable {h₀ : Heap} {Z : Nat → Prop} {h : Heap} {p : Nat} {S : AS} {vT vA vS : CVal} {mH mC : Nat} {HL : List ((Int × Int) × CVal)} {CL : List (Int × CVal)} {x : Int} {Q : CVal → Heap → Prop}
theorem heldB_cal (P : PV h₀ Z h p S vT vA vS mH mC HL CL) (G : GoodS S) (k : ∀ v h', Exd h h' → GSl (fun _ => False) intE h' v (rowOf S.H S x) → (∀ b, isB v b → h.next ≤ b) → Q v h') : Cal tt 19 [.ptr p 0, .int .i64 x] h Q := by
 refine Cal.run rfl rfl rfl rfl ?_
 have t6 := G.t6
 (repeat' first | refine go ?_ | refine idxS_ fun _ _ _ => ?_ | refine sp (fun _ => ?_) fun _ => ?_ | fail)
 refine CALLN.of (inB_cal P fun h1 x1 => ?_)
 have P1 := P.exd x1
 have g1 := P1.g
 by_cases hx : x ∈ S.P
 rotate_left
 ·rw [decide_eq_false hx]
  rw [show rowOf S.H S x = [] by rw [rowOf, posI_mem.2 hx]] at k
  (repeat' first | refine go ?_ | refine idxS_ fun _ _ _ => ?_ | refine sp (fun _ => ?_) fun _ => ?_ | fail)
  exact k _ _ x1 GSl.nil fun b hb => (isB_nil hb).elim
 rw [decide_eq_true hx]
 obtain ⟨kk, hk⟩ := posI_of hx
 rw [show rowOf S.H S x = rowU S.H kk by rw [rowOf, hk]] at k
 have k2 : kk < S.H.length := by rw [G.hl]; exact (posI_at hk).1
 have lR := (G.h _ (rowU_mem k2)).1
 have rT := P1.T.rin
 have l1 := x1.le
 (repeat' first | refine go ?_ | refine idxS_ fun _ _ _ => ?_ | refine sp (fun _ => ?_) fun _ => ?_ | fail)
 refine loopC (fun y : Nat × CVal => [(0, .ptr p 0), (1, .int .i64 x), (4, y.2), (14, .int .i64 S.T.length), (15, .int .i64 y.1)]) (fun y h' => Exd h1 h' ∧ y.1 ≤ S.T.length ∧ GSl (fun _ => False) intE h' y.2 (ofJ y.1 fun c => look0 (x, (c : Int)) HL) ∧ ∀ b, isB y.2 b → h1.next ≤ b) (fun y => S.T.length - y.1) (0, .nilSlice) ⟨rfl, rfl, rfl, rfl, rfl, trivial⟩ ⟨Exd.refl _, Nat.zero_le _, GSl.nil, fun b hb => (isB_nil hb).elim⟩ ?_
 rintro ⟨j, vo⟩ ρ h' ⟨xk, hj, Go, ob⟩
 simp only at hj Go ob ⊢
 have oo := Go.one
 have P' := P1.exd xk
 have g' := P'.g
 by_cases hjl : j < S.T.length
 rotate_left
 ·obtain rfl : j = S.T.length := by omega
  have e : ofJ S.T.length (fun c => look0 (x, (c : Int)) HL) = rowU S.H kk := by
   rw [ofJ_congr (g := atU (rowU S.H kk)) fun c hc => by rw [P.hv x c (by omega), hAt, hk]; show atU _ ((c : Int)).toNat = _; rw [Int.toNat_natCast], ← lR, ofJ_atU]
  rw [e] at Go
  (repeat' first | refine go ?_ | refine idxS_ fun _ _ _ => ?_ | refine sp (fun _ => ?_) fun _ => ?_ | fail)
  exact k _ _ (x1.trans xk) Go fun b hb => by have := ob b hb; omega
 obtain ⟨st, gm, sm, nm⟩ := P'.H
 have lx := xk.le
 obtain ⟨N1, hN1⟩ : ∃ N, h'.next = N := ⟨_, rfl⟩
 have x2 : Exd h' (h'.new (.cells [.int .i64 (look0 (x, (j : Int)) HL)] true none)) := Exd.new (Exd.refl _)
 have src : srcC (h'.new (.cells [.int .i64 (look0 (x, (j : Int)) HL)] true none)) 1 (.slice N1 0 1 1) = some (1, [.int .i64 (look0 (x, (j : Int)) HL)]) := src_one (by exact get_) rfl rfl
 obtain ⟨h3, ea, u3, n3, G3⟩ := (Go.exd x2).push1 (bytes := 8) (a := look0 (x, (j : Int)) HL) (N := N1 + 1) src (by rw [ofJ_length]; omega) rfl (by rw [Heap.next_new, hN1])
 have hlk : ∀ K : CVal → Prop, K (.int .i64 (look0 (x, (j : Int)) HL)) → LKN (.flat [.int, .int]) (.int .i64 0) false (keyP (x, (j : Int))) (mapE keyP HL) K := fun K q => by
  cases hl : lookA (x, (j : Int)) HL with
  | none =>
    rw [show look0 (x, (j : Int)) HL = 0 by rw [look0, hl]] at q
    exact lkNF KeyE.pair hl q
  | some v =>
    have : ∃ n : Int, v = .int .i64 n := by
     have hv := hl
     unfold lookA at hv
     cases hq : findA (x, (j : Int)) HL 0 with
     | none => rw [hq] at hv; simp at hv
     | some q2 =>
       rw [hq] at hv
       simp only [Option.map_some, Option.some.injEq] at hv
       obtain ⟨n, e, _⟩ := P.hk _ (List.mem_of_getElem? (findA_at hq).1)
       exact ⟨n, by rw [← hv]; exact e⟩
    obtain ⟨n, rfl⟩ := this
    rw [show look0 (x, (j : Int)) HL = n by rw [look0, hl]] at q
    exact lkF KeyE.pair hl q
 (repeat' first | refine go ?_ | (refine hlk _ ?_) | (refine SOMEN.mk ea ?_) | refine idxS_ fun _ _ _ => ?_ | refine sp (fun _ => ?_) fun _ => ?_ | fail)
 exact ⟨rfl, (j + 1, _), ⟨rfl, rfl, rfl, rfl, rfl, trivial⟩, ⟨(⟨by rw [n3]; omega, fun i hi => (u3.get i (by rw [Heap.next_new]; omega) fun hb => by have := ob i hb; omega).trans ((x2.get i (by omega)).trans (xk.get i hi))⟩ : Exd h1 h3), by show j + 1 ≤ S.T.length; omega, by show GSl _ _ h3 _ (ofJ (j + 1) _); rw [ofJ_succ]; exact G3, fun b hb => by rw [isB_slice] at hb; omega⟩, by simp only; omega⟩
end
theorem intKeys_mapE : ∀ {CL : List (Int × CVal)}, (∀ n ∈ CL.map (·.1), -9223372036854775808 ≤ n ∧ n ≤ 9223372036854775807) → intKeysC (mapE keyI CL) = some (CL.map (·.1))
 | [], _ => rfl
 | e :: CL, h => by
   have := intKeys_mapE (CL := CL) fun n hn => h n (List.mem_cons_of_mem _ hn)
   show intKeysC ((keyI e.1, e.2) :: mapE keyI CL) = _
   simp only [keyI, intKeysC, this]
   rw [if_pos (h e.1 (List.mem_cons_self ..))]
   rfl
theorem isort_of {ks P : List Int} (h : ks.Perm P) (hs : P.Pairwise (· < ·)) : isort ks = P := by
 refine List.Perm.eq_of_pairwise (le := fun a b : Int => a ≤ b) (fun a b _ _ h1 h2 => by omega) (isort_sorted ks) (hs.imp fun h => by omega) ((isort_perm ks).trans h)
section
variable {h₀ : Heap} {Z : Nat → Prop} {h : Heap} {p : Nat} {S : AS} {vT vA vS : CVal} {mH mC : Nat} {HL : List ((Int × Int) × CVal)} {CL : List (Int × CVal)} {x : Int} {Q : CVal → Heap → Prop}
theorem claimB_cal (P : PV h₀ Z h p S vT vA vS mH mC HL CL) (G : GoodS S) (k : ∀ v h', Exd h h' → (∀ Z : Nat → Prop, (∀ i, Z i → i < h.next) → RSl Z intE h' v (rowOf S.C S x)) → Q v h') : Cal tt 20 [.ptr p 0, .int .i64 x] h Q := by
 refine Cal.run rfl rfl rfl rfl ?_
 (repeat' first | refine go ?_ | refine idxS_ fun _ _ _ => ?_ | refine sp (fun _ => ?_) fun _ => ?_ | fail)
 refine CALLN.of (inB_cal P fun h1 x1 => ?_)
 have P1 := P.exd x1
 have g1 := P1.g
 by_cases hx : x ∈ S.P
 rotate_left
 ·rw [decide_eq_false hx]
  rw [show rowOf S.C S x = [] by rw [rowOf, posI_mem.2 hx]] at k
  (repeat' first | refine go ?_ | refine idxS_ fun _ _ _ => ?_ | refine sp (fun _ => ?_) fun _ => ?_ | fail)
  exact k _ _ x1 fun _ _ => .nil
 rw [decide_eq_true hx]
 obtain ⟨kk, hk⟩ := posI_of hx
 rw [show rowOf S.C S x = rowU S.C kk by rw [rowOf, hk]] at k
 obtain ⟨k1, k2⟩ := posI_at hk
 obtain ⟨w, e, r⟩ := P1.cv kk k1
 rw [k2] at e
 obtain ⟨st, gc, sc, nc⟩ := P1.C
 have k3 : kk < S.C.length := by rw [G.cl]; exact k1
 (repeat' first | refine go ?_ | (refine lkF KeyE.int e ?_) | refine idxS_ fun _ _ _ => ?_ | refine sp (fun _ => ?_) fun _ => ?_ | fail)
 refine CALLN.of (cloneW_cal r.rin (G.lenC _ (rowU_mem k3)) fun v h2 x2 s2 => ?_)
 have o2 := s2.one
 (repeat' first | refine go ?_ | refine idxS_ fun _ _ _ => ?_ | refine sp (fun _ => ?_) fun _ => ?_ | fail)
 exact k _ _ (x1.trans x2) fun Z hz => s2.rsl fun i hi => Nat.lt_of_lt_of_le (hz i hi) x1.le
theorem availB_cal (P : PV h₀ Z h p S vT vA vS mH mC HL CL) (G : GoodS S) (k : ∀ v h', Exd h h' → RIn h' v S.A → (∀ b, isB v b → h.next ≤ b) → Q v h') : Cal tt 17 [.ptr p 0] h Q := by
 refine Cal.run rfl rfl rfl rfl ?_
 have lA := G.a
 have t6 := G.t6
 (repeat' first | refine go ?_ | refine idxS_ fun _ _ _ => ?_ | refine sp (fun _ => ?_) fun _ => ?_ | fail)
 refine CALLN.of (begB_cal P fun h1 x1 => ?_)
 have P1 := P.exd x1
 have g1 := P1.g
 have oA := P1.A.one
 (repeat' first | refine go ?_ | refine idxS_ fun _ _ _ => ?_ | refine sp (fun _ => ?_) fun _ => ?_ | fail)
 refine CALLN.of (cloneW_cal P1.A.rin (by omega) fun v h2 x2 s2 => ?_)
 have o2 := s2.one
 (repeat' first | refine go ?_ | refine idxS_ fun _ _ _ => ?_ | refine sp (fun _ => ?_) fun _ => ?_ | fail)
 refine k v h2 (x1.trans x2) s2.rin fun b hb => ?_
 rcases s2 with ⟨rfl, _⟩ | ⟨b', e, h3, _⟩
 ·exact (isB_nil hb).elim
 ·rw [e, isB_slice] at hb
  have := x1.le
  omega
theorem pidsB_cal (P : PV h₀ Z h p S vT vA vS mH mC HL CL) (G : GoodS S) (k : ∀ v h', Exd h h' → RIn h' v S.P → (∀ b, isB v b → h.next ≤ b) → Q v h') : Cal tt 18 [.ptr p 0] h Q := by
 refine Cal.run rfl rfl rfl rfl ?_
 (repeat' first | refine go ?_ | refine idxS_ fun _ _ _ => ?_ | refine sp (fun _ => ?_) fun _ => ?_ | fail)
 refine CALLN.of (begB_cal P fun h1 x1 => ?_)
 have P1 := P.exd x1
 have g1 := P1.g
 obtain ⟨st, gc, sc, nc⟩ := P1.C
 obtain ⟨bs, c, rfl, s1, s2, s3⟩ := sc.ok
 (repeat' first | refine go ?_ | refine idxS_ fun _ _ _ => ?_ | refine sp (fun _ => ?_) fun _ => ?_ | fail)
 refine CALLN.of (Cal.prim (p := keysP 84) rfl rfl ?_)
 obtain ⟨N, hN⟩ : ∃ N, h1.next = N := ⟨_, rfl⟩
 have hks : intKeysC (mapE keyI CL) = some (CL.map (·.1)) := intKeys_mapE fun n hn => by have := G.p1 n (P.ck.mem_iff.1 hn); omega
 have his := isort_of P.ck G.ps
 have hlen : (CL.map (·.1)).length = S.P.length := P.ck.length_eq
 have p32 := G.p32
 have lmC := P1.zl _ P1.zc
 have hso : stOk (mapE keyI CL) bs c = true := stOk_iff.2 ⟨by rw [mapE_length]; exact s1, s2, s3, by rw [mapE_length]; rw [List.length_map] at hlen; omega⟩
 have ga : (h1.new (.kbox (.map mC))).get N = some (.kbox (.map mC)) := by exact get_
 have gb : (h1.new (.kbox (.map mC))).get mC = some (.map (mapE keyI CL) true (some (bs, c))) := by exact get_
 (repeat' first | refine go ?_ | refine idxS_ fun _ _ _ => ?_ | refine sp (fun _ => ?_) fun _ => ?_ | fail)
 cases hcl : CL.map (·.1) with
 | nil =>
   rw [hcl] at hks his
   refine CALLN.of (Cal.prim (p := sortedP 84) (v := .nilSlice) (h' := h1.new (.kbox (.map mC))) rfl ?_ ?_)
   ·simp only [sortedP, if_true, hN, ga, gb, hks]
    rw [if_pos ⟨hso, List.nodup_nil⟩]
   ·(repeat' first | refine go ?_ | refine idxS_ fun _ _ _ => ?_ | refine sp (fun _ => ?_) fun _ => ?_ | fail)
    exact k .nilSlice _ (x1.trans (Exd.new (Exd.refl _))) (.inl ⟨rfl, his.symm⟩) fun b hb => (isB_nil hb).elim
 | cons a l =>
   rw [hcl] at hks his hlen nc
   have gs : ((h1.new (.kbox (.map mC))).new (.cells (S.P.map (.int .i64)) true (some 1))).get (N + 1) = some (.cells (S.P.map (.int .i64)) true (some 1)) := by exact get_
   have l1 := x1.le
   refine CALLN.of (Cal.prim (p := sortedP 84) (v := .slice (N + 1) 0 S.P.length S.P.length) (h' := (h1.new (.kbox (.map mC))).new (.cells (S.P.map (.int .i64)) true (some 1))) rfl ?_ ?_)
   ·simp only [sortedP, if_true, hN, ga, gb, hks]
    rw [if_pos ⟨hso, nc⟩, his, hlen, Heap.next_new, hN]
   ·(repeat' first | refine go ?_ | refine idxS_ fun _ _ _ => ?_ | refine sp (fun _ => ?_) fun _ => ?_ | fail)
    refine k (.slice (N + 1) 0 S.P.length S.P.length) _ (x1.trans (Exd.new (Exd.new (Exd.refl _)))) (.inr ⟨N + 1, 0, _, rfl, by simp only [Heap.next_new]; omega, .inr ⟨_, _, _, gs, fun j hj => by simp [hj]⟩⟩) fun b hb => ?_
    rw [isB_slice] at hb
    omega
end
section
variable {h₀ : Heap} {Z : Nat → Prop} {h : Heap} {p : Nat} {S : AS} {vT vA vS : CVal} {mH mC : Nat} {HL : List ((Int × Int) × CVal)} {CL : List (Int × CVal)} {x : Int} {Q : CVal → Heap → Prop}
theorem PV.asks (P : PV h₀ Z h p S vT vA vS mH mC HL CL) : RSl (fun _ => False) askE h vS S.W := (P.W.sub (Z' := fun _ => False) fun _ _ f => f.elim).read fun _ _ f => f
theorem pendingB_cal (P : PV h₀ Z h p S vT vA vS mH mC HL CL) (G : GoodS S) (k : ∀ v h', Exd h h' → RSl (fun _ => False) askE h' v S.W → Q v h') : Cal tt 26 [.ptr p 0] h Q := by
 refine Cal.run rfl rfl rfl rfl ?_
 have g := P.g
 have rW := P.asks
 have wl := G.wl
 have t6 := G.t6
 (repeat' first | refine go ?_ | (refine rW.lenS ?_) | refine idxS_ fun _ _ _ => ?_ | refine sp (fun _ => ?_) fun _ => ?_ | fail)
 refine loopC (fun y : Nat × CVal => [(2, y.2), (10, vS), (11, .int .i64 S.W.length), (12, .int .i64 y.1)]) (fun y h' => Exd h h' ∧ y.1 ≤ S.W.length ∧ GSl (fun _ => False) askE h' y.2 (S.W.take y.1) ∧ ∀ b, isB y.2 b → h.next ≤ b) (fun y => S.W.length - y.1) (0, .nilSlice) ⟨rfl, rfl, rfl, rfl, trivial⟩ ⟨Exd.refl _, Nat.zero_le _, GSl.nil, fun b hb => (isB_nil hb).elim⟩ ?_
 rintro ⟨j, vo⟩ ρ h' ⟨xk, hj, Go, ob⟩
 simp only at hj Go ob ⊢
 have oo := Go.one
 by_cases hjl : j < S.W.length
 rotate_left
 ·obtain rfl : j = S.W.length := by omega
  rw [List.take_length] at Go
  (repeat' first | refine go ?_ | refine idxS_ fun _ _ _ => ?_ | refine sp (fun _ => ?_) fun _ => ?_ | fail)
  exact k _ _ xk (Go.read fun _ _ f => f)
 obtain ⟨a, ea⟩ : ∃ a, S.W[j]? = some a := ⟨_, List.getElem?_eq_getElem hjl⟩
 obtain ⟨pid, us⟩ := a
 have hm : (pid, us) ∈ S.W := List.mem_of_getElem? ea
 obtain ⟨q1, q2⟩ := rowOk_split (G.w _ hm).2
 simp only at q1 q2
 obtain ⟨b0, o0, w, r, a0, hi⟩ := (rW.exd xk).pairE ea
 have ow := r.one
 obtain ⟨N, hN⟩ : ∃ N, h'.next = N := ⟨_, rfl⟩
 have hpj : S.W.take (j + 1) = S.W.take j ++ [(pid, us)] := by rw [List.take_add_one, ea]; rfl
 (repeat' first | refine go ?_ | (refine hi _ ?_) | (refine AtN.get a0 rfl ?_) | refine idxS_ fun _ _ _ => ?_ | refine sp (fun _ => ?_) fun _ => ?_ | fail)
 refine CALLN.of (cloneW_cal (r.rin.exd exd_) (by omega) fun v h2 x2 s2 => ?_)
 have x02 : Exd h' h2 := Exd.trans exd_ x2
 have gN : h2.get N = some (.cells [.int .i64 pid, w] true none) := x2.skip (by exact lt_) (by exact get_)
 have nN : N < h2.next := by have := x2.le; simp only [Heap.next_set, Heap.next_new] at this; omega
 have o2 := s2.one
 have l2 : h'.next ≤ h2.next := x02.le
 have vb : ∀ b, isB v b → N ≤ b := fun b hb => by
  rcases s2 with ⟨rfl, _⟩ | ⟨b', e, h3, _⟩
  ·exact (isB_nil hb).elim
  ·rw [e, isB_slice] at hb
   simp only [Heap.next_set, Heap.next_new] at h3
   omega
 have r2 : RSl (fun i => False ∨ isB vo i) intE h2 v us := s2.rin.rsl (fun b hb h => h.elim id fun h => by have := vb b hb; have := Go.1 b h; omega) fun i o l c e => by
  rcases s2 with ⟨rfl, _⟩ | ⟨b', e', _⟩
  ·simp at e
  ·rw [e'] at e
   simp only [CVal.slice.injEq] at e
   omega
 clear x2
 obtain ⟨N2, hN2⟩ : ∃ N, h2.next = N := ⟨_, rfl⟩
 have x3 : Exd h2 (h2.new (.cells [.int .i64 pid, v] true none)) := Exd.new (Exd.refl _)
 have he : askE.ok (fun i => (fun _ => False) i ∨ isB vo i) (h2.new (.cells [.int .i64 pid, v] true none)) [.int .i64 pid, v] (pid, us) := npE.ok (p := (pid, us)) (r2.exd x3)
 obtain ⟨h4, e4, u4, n4, G4⟩ := (Go.exd (x02.trans x3)).push1 (bytes := 32) (N := N2 + 1) (src := .slice N2 0 1 1) (src_one (by exact get_) rfl rfl) (by rw [List.length_take]; omega) he (by rw [Heap.next_new, hN2])
 have lx := xk.le
 (repeat' first | refine go ?_ | (refine SOMEN.mk e4 ?_) | refine idxS_ fun _ _ _ => ?_ | refine sp (fun _ => ?_) fun _ => ?_ | fail)
 exact ⟨rfl, (j + 1, _), ⟨rfl, rfl, rfl, rfl, trivial⟩, ⟨(⟨by omega, fun i hi => (u4.get i (by rw [Heap.next_new]; omega) fun hb => by have := ob i hb; omega).trans ((x3.get i (by omega)).trans ((x02.get i (by omega)).trans (xk.get i hi)))⟩ : Exd h h4), by show j + 1 ≤ S.W.length; omega, by show GSl _ _ h4 _ (S.W.take (j + 1)); rw [hpj]; exact G4, fun b hb => by rw [isB_slice] at hb; omega⟩, by simp only; omega⟩
end
theorem of_cal {h : Heap} {pid : Int} {Q : CVal → Heap → Prop} (k : ∀ b h', Exd h h' → h.next ≤ b → b < h'.next → h'.get b = some (.cells [.int .i64 pid] true none) → Q (.func 87 [] [.ptr b 0]) h') : Cal tt 57 [.int .i64 pid] h Q := by
 obtain ⟨N, hN⟩ : ∃ N, h.next = N := ⟨_, rfl⟩
 refine Cal.run rfl rfl rfl rfl ?_
 (repeat' first | refine go ?_ | refine idxS_ fun _ _ _ => ?_ | refine sp (fun _ => ?_) fun _ => ?_ | fail)
 exact k N _ (Exd.new (Exd.refl _)) (by omega) (by exact lt_) (by exact get_)
theorem ofC_cal {h : Heap} {pid x : Int} {w : CVal} {b : Nat} {Q : CVal → Heap → Prop} (ow : w.one = true) (hb : b < h.next) (g : h.get b = some (.cells [.int .i64 pid] true none)) (k : ∀ h', Exd h h' → Q (.bool (decide (x = pid))) h') : Cal tt 87 [.agg [.int .i64 x, w], .ptr b 0] h Q := by
 obtain ⟨N, hN⟩ : ∃ N, h.next = N := ⟨_, rfl⟩
 refine Cal.run rfl rfl rfl rfl ?_
 by_cases hx : x = pid
 ·rw [decide_eq_true hx] at k
  (repeat' first | refine go ?_ | refine idxS_ fun _ _ _ => ?_ | refine sp (fun _ => ?_) fun _ => ?_ | fail)
  exact k _ (Exd.new (Exd.refl _))
 ·rw [decide_eq_false hx] at k
  (repeat' first | refine go ?_ | refine idxS_ fun _ _ _ => ?_ | refine sp (fun _ => ?_) fun _ => ?_ | fail)
  exact k _ (Exd.new (Exd.refl _))
theorem idxAsk_cal {Z : Nat → Prop} {h : Heap} {vs : CVal} {W : List (Int × List Int)} {pid : Int} {b : Nat} {Q : CVal → Heap → Prop} (rW : RSl Z askE h vs W) (wl : W.length ≤ 1000) (hb : b < h.next) (g : h.get b = some (.cells [.int .i64 pid] true none)) (k : ∀ h', Exd h h' → Q (.int .i64 (posN (posW W pid))) h') : Cal tt 56 [vs, .func 87 [] [.ptr b 0]] h Q := by
 refine Cal.run rfl rfl rfl rfl ?_
 have ov := rW.one
 (repeat' first | refine go ?_ | (refine rW.lenS ?_) | refine idxS_ fun _ _ _ => ?_ | refine sp (fun _ => ?_) fun _ => ?_ | fail)
 refine loopC (fun j : Nat => [(0, vs), (1, .func 87 [] [.ptr b 0]), (7, .int .i64 W.length), (8, .int .i64 j)]) (fun j h' => Exd h h' ∧ j ≤ W.length ∧ ∀ p, p < j → (W.map (·.1)).getD p 0 ≠ pid) (fun j => W.length - j) 0 ⟨rfl, rfl, rfl, rfl, trivial⟩ ⟨Exd.refl _, Nat.zero_le _, fun p hp => absurd hp (Nat.not_lt_zero _)⟩ ?_
 rintro j ρ h' ⟨xk, hj, hno⟩
 by_cases hjl : j < W.length
 rotate_left
 ·rw [posW, posI_none fun p hp => hno p (by rw [List.length_map] at hp; omega)] at k
  (repeat' first | refine go ?_ | refine idxS_ fun _ _ _ => ?_ | refine sp (fun _ => ?_) fun _ => ?_ | fail)
  exact k _ xk
 obtain ⟨a, ea⟩ : ∃ a, W[j]? = some a := ⟨_, List.getElem?_eq_getElem hjl⟩
 obtain ⟨q, us⟩ := a
 obtain ⟨b0, o0, w, r, a0, hi⟩ := (rW.exd xk).pairE ea
 have ow := r.one
 have eq : (W.map (·.1)).getD j 0 = q := by rw [getD_fst, List.getD_eq_getElem?_getD, ea]; rfl
 have g' := xk.skip hb g
 have lx := xk.le
 (repeat' first | refine go ?_ | (refine hi _ ?_) | (refine AtN.get a0 rfl ?_) | refine idxS_ fun _ _ _ => ?_ | refine sp (fun _ => ?_) fun _ => ?_ | fail)
 refine CALLN.of (ofC_cal ow (by omega) g' fun h2 x2 => ?_)
 by_cases hx : q = pid
 ·rw [decide_eq_true hx]
  rw [posW, posI_some (by rw [List.length_map]; exact hjl) (eq.trans hx) hno] at k
  (repeat' first | refine go ?_ | refine idxS_ fun _ _ _ => ?_ | refine sp (fun _ => ?_) fun _ => ?_ | fail)
  exact k _ (xk.trans x2)
 ·rw [decide_eq_false hx]
  (repeat' first | refine go ?_ | refine idxS_ fun _ _ _ => ?_ | refine sp (fun _ => ?_) fun _ => ?_ | fail)
  exact ⟨rfl, j + 1, ⟨rfl, rfl, rfl, rfl, trivial⟩, ⟨xk.trans x2, by omega, fun p hp => by
   rcases Nat.lt_or_ge p j with h1 | h1
   ·exact hno p h1
   ·obtain rfl : p = j := by omega
    rw [eq]; exact hx⟩, by omega⟩
theorem hasAsk_cal {Z : Nat → Prop} {h : Heap} {vs : CVal} {W : List (Int × List Int)} {pid : Int} {b : Nat} {Q : CVal → Heap → Prop} (rW : RSl Z askE h vs W) (wl : W.length ≤ 1000) (hb : b < h.next) (g : h.get b = some (.cells [.int .i64 pid] true none)) (k : ∀ h', Exd h h' → Q (.bool (posW W pid).isSome) h') : Cal tt 66 [vs, .func 87 [] [.ptr b 0]] h Q := by
 refine Cal.run rfl rfl rfl rfl ?_
 have ov := rW.one
 (repeat' first | refine go ?_ | refine idxS_ fun _ _ _ => ?_ | refine sp (fun _ => ?_) fun _ => ?_ | fail)
 refine CALLN.of (idxAsk_cal rW wl hb g fun h1 x1 => ?_)
 cases hw : posW W pid with
 | none =>
   rw [hw] at k
   have pn : posN (none : Option Nat) = -1 := rfl
   (repeat' first | refine go ?_ | refine idxS_ fun _ _ _ => ?_ | refine sp (fun _ => ?_) fun _ => ?_ | fail)
   exact k _ x1
 | some w =>
   rw [hw] at k
   have pn : posN (some w) = (w : Int) := rfl
   (repeat' first | refine go ?_ | refine idxS_ fun _ _ _ => ?_ | refine sp (fun _ => ?_) fun _ => ?_ | fail)
   exact k _ x1
theorem look_map {α : Type} [DecidableEq α] {kt : KT} {f : α → CVal} (E : KeyE kt f) {N : Nat} {ρ : Env} {h : Heap} {zero v : CVal} {M X : CX} {m : Nat} {x : α} {L : List (α × CVal)} {A : Prop} (hm : M.on N ρ = .map m) (hx : X.on N ρ = f x) (H : MapAt h m f L) (e : (lookA x L).getD zero = v) (k : A) : LOOKN N (.lookup kt zero false M X) ρ h v A := by
 obtain ⟨st, g, _⟩ := H
 refine .mk ?_ k
 subst e
 simp only [cop, CX.on_ev, hm, hx, E.ok, mapC, g, findK_A E, Bool.true_eq_false, if_false]
 unfold lookA
 cases findA x L 0 <;> simp
section
variable {h₀ : Heap} {Z : Nat → Prop} {h h' : Heap} {p : Nat} {S : AS} {vT vA vS : CVal} {mH mC : Nat} {HL : List ((Int × Int) × CVal)} {CL : List (Int × CVal)} {x : Int} {Q : CVal → Heap → Prop}
theorem PV.setAv (P : PV h₀ Z h p S vT vA vS mH mC HL CL) {b j : Nat} {a : Int} {opn : Option Nat} (e : vA = .slice b 0 S.A.length S.A.length) (s2 : h₀.next ≤ b) (r : opn = none ∨ opn = some 1) :
 PV h₀ Z (h.set b (.cells (putCells (S.A.map (.int .i64)) j [.int .i64 a]) true opn)) p { S with A := S.A.set j a } vT vA vS mH mC HL CL := by
 have hb : isB vA b := ⟨_, _, _, e⟩
 have zb := P.za b hb
 obtain ⟨n1, n2, n3, n4⟩ := P.n2 b hb
 have u : Upd (fun i => i = b) h (h.set b (.cells (putCells (S.A.map (.int .i64)) j [.int .i64 a]) true opn)) := Upd.set (Upd.refl _ _) (.inl rfl)
 have uz : Upd Z h (h.set b (.cells (putCells (S.A.map (.int .i64)) j [.int .i64 a]) true opn)) := u.sub fun i _ e => by rw [e]; exact zb
 refine ⟨P.zp, P.zh, P.zc, P.za, P.zs, fun i hi => by rw [Heap.next_set]; exact P.zl i hi, P.n1, P.n2, P.n3, (Heap.get_set_ne _ _ _ _ (Ne.symm n1)).trans P.g, P.T.upd uz, WSl.put e s2 (P.zl b zb) r, P.H.of_get (Heap.get_set_ne _ _ _ _ (Ne.symm n2)), P.C.of_get (Heap.get_set_ne _ _ _ _ (Ne.symm n3)), P.W.upd u fun i _ e => by rw [e]; exact ⟨zb, n4⟩, P.hk, P.hr, P.hv, P.ck, fun k hk => by
  obtain ⟨w, e, r⟩ := P.cv k hk
  exact ⟨w, e, r.upd uz⟩⟩
theorem look0_set {y : Int × Int} {k : Int × Int} {n : Int} {L : List ((Int × Int) × CVal)} : look0 y (setA k (.int .i64 n) L) = if y = k then n else look0 y L := by
 simp only [look0, lookA_setA]
 by_cases e : y = k <;> simp [e]
theorem setA_mem {k : Int × Int} {v : CVal} {L : List ((Int × Int) × CVal)} {e : (Int × Int) × CVal} (h : e ∈ setA k v L) : e = (k, v) ∨ e ∈ L := by
 unfold setA at h
 split at h
 ·rcases List.mem_or_eq_of_mem_set h with h | h
  ·exact .inr h
  ·exact .inl h
 ·rcases List.mem_append.1 h with h | h
  ·exact .inr h
  ·exact .inl (by simpa using h)
theorem atU_set {R : List Int} {j c : Nat} {v : Int} (hj : j < R.length) : atU (R.set j v) c = if c = j then v else atU R c := by
 unfold atU
 rw [List.getD_eq_getElem?_getD, List.getD_eq_getElem?_getD, List.getElem?_set]
 by_cases e : j = c
 ·subst e; simp [hj]
 ·rw [if_neg e, if_neg (fun h => e h.symm)]
theorem rowU_set {M : List (List Int)} {j k : Nat} {R : List Int} (hj : j < M.length) : rowU (M.set j R) k = if k = j then R else rowU M k := by
 unfold rowU
 rw [List.getD_eq_getElem?_getD, List.getD_eq_getElem?_getD, List.getElem?_set]
 by_cases e : j = k
 ·subst e; simp [hj]
 ·rw [if_neg e, if_neg (fun h => e h.symm)]
theorem PV.setHe (P : PV h₀ Z h p S vT vA vS mH mC HL CL) {kk j : Nat} {v : Int} (hk : posI S.P x = some kk) (k2 : kk < S.H.length) (hj : j < (rowU S.H kk).length) (j6 : j < 6) (hv : -1000000 ≤ v ∧ v ≤ 1000000) (e1 : ∀ i, i ≠ mH → h'.get i = h.get i) (e2 : h'.next = h.next) (M : MapAt h' mH keyP (setA (x, (j : Int)) (.int .i64 v) HL)) :
 PV h₀ Z h' p { S with H := S.H.set kk ((rowU S.H kk).set j v) } vT vA vS mH mC (setA (x, (j : Int)) (.int .i64 v) HL) CL := by
 have u : Upd (fun i => i = mH) h h' := ⟨by omega, fun i _ hi => e1 i hi⟩
 have uz : Upd Z h h' := u.sub fun i _ e => by rw [e]; exact P.zh
 refine ⟨P.zp, P.zh, P.zc, P.za, P.zs, fun i hi => by rw [e2]; exact P.zl i hi, P.n1, P.n2, P.n3, (e1 p P.n1.1).trans P.g, P.T.upd uz, P.A.frame (by omega) fun i o hb g _ => (e1 i (P.n2 i hb).2.1).trans g, M, P.C.of_get (e1 mC (Ne.symm P.n1.2.2)), P.W.upd u fun i _ e => by rw [e]; exact ⟨P.zh, fun h => (P.n3 mH h).2.1 rfl⟩, fun e he => ?_, fun e he => ?_, fun pid c hc => ?_, P.ck, fun k hk => by
  obtain ⟨w, e, r⟩ := P.cv k hk
  exact ⟨w, e, r.upd uz⟩⟩
 ·rcases setA_mem he with h | h
  ·subst h; exact ⟨v, rfl, hv⟩
  ·exact P.hk e h
 ·rcases setA_mem he with h | h
  ·subst h; exact ⟨Classical.byContradiction fun hn => by rw [posI_mem.2 hn] at hk; simp at hk, by simp only; omega, by simp only; omega⟩
  ·exact P.hr e h
 ·rw [look0_set]
  show _ = hAt { S with H := S.H.set kk ((rowU S.H kk).set j v) } pid c
  simp only [hAt]
  by_cases ep : pid = x
  ·subst ep
   rw [hk]
   simp only
   rw [rowU_set k2, if_pos rfl, atU_set hj]
   by_cases ec : c = (j : Int)
   ·subst ec
    rw [if_pos rfl, Int.toNat_natCast, if_pos rfl]
   ·rw [if_neg (fun h => ec (by simpa using h)), if_neg (by omega), P.hv pid c hc, hAt, hk]
  ·rw [if_neg (fun h => ep (by simpa using congrArg Prod.fst h)), P.hv pid c hc, hAt]
   cases hq : posI S.P pid with
   | none => rfl
   | some k' =>
     simp only
     rw [rowU_set k2, if_neg fun e => ?_]
     subst e
     exact ep ((posI_at hq).2.symm.trans (posI_at hk).2)
end
theorem MapAt.entryV {α : Type} [DecidableEq α] {kt : KT} {f : α → CVal} (E : KeyE kt f) {N : Nat} {ρ : Env} {h : Heap} {zero z : CVal} {M X : CX} {m : Nat} {x : α} {L : List (α × CVal)} {K : CVal → Heap → Prop} (hm : M.on N ρ = .map m) (hx : X.on N ρ = f x) (A : MapAt h m f L) (hz : (lookA x L).getD zero = z)
 (k : ∀ (n : Nat) (h3 : Heap), (∀ i, i ≠ m → h3.get i = h.get i) → h3.next = h.next → MapAt h3 m f (setA x z L) →
  (∀ (N : Nat) (ρ : Env) (M S X : CX) (v : CVal) (K : CVal → Heap → Prop), M.on N ρ = .map m → S.on N ρ = .int .i64 n → X.on N ρ = v → (∀ h4, (∀ i, i ≠ m → h4.get i = h.get i) → h4.next = h.next → MapAt h4 m f (setA x v L) → K .un h4) → OPN N (.entryStore M S X) ρ h3 K) →
  K (.tuple [z, .int .i64 n]) h3) : OPN N (.mapEntry kt zero M X) ρ h K := by
 refine MapAt.entry E hm hx A fun j n L' bs c e1 e2 e3 e4 e5 e6 => ?_
 rw [hz] at e1 e2 ⊢
 subst e2
 refine k n _ (fun i hi => Heap.get_set_ne _ _ _ _ hi) (Heap.next_set ..) ⟨_, Heap.set_at rfl, e3, e6⟩ fun N ρ M S X v K hM hS hX q => ?_
 subst hX
 refine MapAt.store hM hS (Heap.set_at rfl) e3 e5 e4 e1 e6 fun h4 a b c => q h4 (fun i hi => (a i hi).trans (Heap.get_set_ne _ _ _ _ hi)) (b.trans (Heap.next_set ..)) c
section
variable {h₀ : Heap} {Z : Nat → Prop} {h h' : Heap} {p : Nat} {S : AS} {vT vA vS : CVal} {mH mC : Nat} {HL : List ((Int × Int) × CVal)} {CL : List (Int × CVal)} {x : Int} {Q : CVal → Heap → Prop}
theorem PV.setn (P : PV h₀ Z h p S vT vA vS mH mC HL CL) {b j : Nat} {a : Int} {opn : Option Nat} {K : Heap → Prop} (e : vA = .slice b 0 S.A.length S.A.length) (s2 : h₀.next ≤ b) (g : h.get b = some (.cells (S.A.map (.int .i64)) true opn)) (r : opn = none ∨ opn = some 1) (hj : j < S.A.length)
 (k : ∀ h', Upd (fun i => isB vA i) h h' → h'.next = h.next → PV h₀ Z h' p { S with A := S.A.set j a } vT vA vS mH mC HL CL → K h') : SETN h b j 1 [.int .i64 a] K :=
 SETN.mk g rfl (by rw [List.length_map]; exact hj) (k _ (Upd.set (Upd.refl _ _) (.inl ⟨_, _, _, e⟩)) (Heap.next_set ..) (P.setAv e s2 r))
theorem PV.look (P : PV h₀ Z h p S vT vA vS mH mC HL CL) (y : Int × Int) : (lookA y HL).getD (.int .i64 0) = .int .i64 (look0 y HL) := by
 cases hl : lookA y HL with
 | none => rw [look0, hl]; rfl
 | some v =>
   have : ∃ n : Int, v = .int .i64 n := by
    have hv := hl
    unfold lookA at hv
    cases hq : findA y HL 0 with
    | none => rw [hq] at hv; simp at hv
    | some q2 =>
      rw [hq] at hv
      simp only [Option.map_some, Option.some.injEq] at hv
      obtain ⟨n, e, _⟩ := P.hk _ (List.mem_of_getElem? (findA_at hq).1)
      exact ⟨n, by rw [← hv]; exact e⟩
   obtain ⟨n, rfl⟩ := this
   rw [look0, hl]; rfl
def moved (S : AS) (kk : Nat) (b : Int) (u : List Int) (n j : Nat) : AS :=
 { S with A := ofJ n (upTo j (fun c => atU S.A c - b * atU u c) (atU S.A)), H := S.H.set kk (ofJ n (upTo j (fun c => atU (rowU S.H kk) c + b * atU u c) (atU (rowU S.H kk)))) }
set_option maxHeartbeats 1000000 in
theorem move_w {E : QT} {vv : CVal} {u : List Int} {kk n : Nat} {b : Int} (P : PV h₀ Z h p S vT vA vS mH mC HL CL) (hk : posI S.P x = some kk) (k2 : kk < S.H.length) (lA : S.A.length = n) (lR : (rowU S.H kk).length = n) (rv : RSl Z intE h vv u) (lu : u.length = n) (n6 : n ≤ 6) (hb : b = 1 ∨ b = -1)
 (bA : ∀ j, -10000 ≤ atU S.A j ∧ atU S.A j ≤ 10000) (bR : ∀ j, -10000 ≤ atU (rowU S.H kk) j ∧ atU (rowU S.H kk) j ≤ 10000) (bu : ∀ j, 0 ≤ atU u j ∧ atU u j ≤ 1000)
 (k : ∀ ρ h' HL', Upd (fun i => isB vA i ∨ i = mH) h h' → PV h₀ Z h' p (moved S kk b u n n) vT vA vS mH mC HL' CL → E .normal ρ [] h') : wC tt c68.ntmps c68.code (argsE [.ptr p 0, .int .i64 x, vv, .int .i64 b]) [] h E := by
 have ov := rv.one
 (repeat' first | refine go ?_ | (refine rv.lenS ?_) | refine idxS_ fun _ _ _ => ?_ | refine sp (fun _ => ?_) fun _ => ?_ | fail)
 have st : moved S kk b u n 0 = S := by
  unfold moved
  rw [upTo_zero, upTo_zero, ← lA, ofJ_atU, lA, ← lR, ofJ_atU, rowU_at k2, List.set_getElem_self]
 refine loopC (fun y : Nat × List ((Int × Int) × CVal) => [(0, .ptr p 0), (1, .int .i64 x), (3, .int .i64 b), (10, vv), (11, .int .i64 u.length), (12, .int .i64 y.1)]) (fun y h' => Upd (fun i => isB vA i ∨ i = mH) h h' ∧ y.1 ≤ n ∧ PV h₀ Z h' p (moved S kk b u n y.1) vT vA vS mH mC y.2 CL) (fun y => n - y.1) (0, HL) ⟨rfl, rfl, rfl, rfl, rfl, rfl, trivial⟩ ⟨Upd.refl _ _, Nat.zero_le _, by rw [st]; exact P⟩ ?_
 rintro ⟨j, HLj⟩ ρ h1 ⟨uk, hj, Pj⟩
 simp only at hj Pj ⊢
 by_cases hjl : j < n
 rotate_left
 ·obtain rfl : j = n := by omega
  (repeat' first | refine go ?_ | refine idxS_ fun _ _ _ => ?_ | refine sp (fun _ => ?_) fun _ => ?_ | fail)
  exact k _ _ _ uk Pj
 have ej : (j : Int).toNat = j := Int.toNat_natCast j
 have gj : ∀ R : List Int, R.getD (j : Int).toNat 0 = atU R j := fun R => by rw [Int.toNat_natCast]; rfl
 have rv1 : RIn h1 vv u := (rv.upd (uk.sub fun i _ e => e.elim (P.za i) fun e => by rw [e]; exact P.zh)).rin
 have g1 := Pj.g
 have lAj : (moved S kk b u n j).A.length = n := ofJ_length _ _
 have aj := at_atU (W := (moved S kk b u n j).A) (j := j) (by omega)
 rw [show atU (moved S kk b u n j).A j = atU S.A j from atU_upTo hjl] at aj
 have hbm : b * atU u j = atU u j ∨ b * atU u j = - atU u j := by
  rcases hb with rfl | rfl
  ·left; omega
  ·right; omega
 have b1 := bA j
 have b2 := bu j
 have b3 := bR j
 (repeat' first | refine goS ?_ | ((refine WSl.idxS Pj.A rfl (by omega) fun b' opn e s2 s3 g r => ?_)) | ((refine RIn.idxS rv1 (by omega) fun bb oo gg => ?_; rw [gj] at gg)) | (refine AT.of aj ?_) | refine idxS_ fun _ _ _ => ?_ | refine sp (fun _ => ?_) fun _ => ?_ | fail)
 rename_i b0 opn0 e0 s20 s30 g0 r0
 refine PV.setn (a := atU S.A j - b * atU u j) Pj e s2 (by assumption) r (by omega) fun h2 u2 n2 P2 => ?_
 have g2 := P2.g
 have lk : (lookA (x, (j : Int)) HLj).getD (.int .i64 0) = .int .i64 (atU (rowU S.H kk) j) := by
  rw [Pj.look, Pj.hv x j (by omega), hAt, show posI (moved S kk b u n j).P x = some kk from hk]
  show CVal.int .i64 (atU (rowU (S.H.set kk _) kk) (j : Int).toNat) = _
  rw [rowU_set k2, if_pos rfl, Int.toNat_natCast, atU_upTo hjl]
 (repeat' first | refine go ?_ | (refine look_map KeyE.pair (x := (x, (j : Int))) rfl rfl P2.H lk ?_) | ((refine MapAt.entryV KeyE.pair (x := (x, (j : Int))) rfl rfl P2.H lk fun n3 h3 x3 nx3 M3 st3 => ?_; have g3 := (x3 p P2.n1.1).trans g2)) | (refine look_map KeyE.pair (x := (x, (j : Int))) rfl rfl M3 (by rw [lookA_setA, if_pos rfl]; rfl) ?_) | (refine M3.soms ?_) | (refine lkF KeyE.pair (x := (x, (j : Int))) (by rw [lookA_setA, if_pos rfl]) ?_) | ((refine st3 _ _ _ _ _ _ _ rfl rfl rfl fun h4 x4 nx4 M4 => ?_)) | refine idxS_ fun _ _ _ => ?_ | refine sp (fun _ => ?_) fun _ => ?_ | fail)
 have rj : rowU (S.H.set kk (ofJ n (upTo j (fun c => atU (rowU S.H kk) c + b * atU u c) (atU (rowU S.H kk))))) kk = ofJ n (upTo j (fun c => atU (rowU S.H kk) c + b * atU u c) (atU (rowU S.H kk))) := by
  rw [rowU_set k2, if_pos rfl]
 have P4 := P2.setHe (x := x) (kk := kk) (j := j) (v := atU (rowU S.H kk) j + b * atU u j) hk (by show kk < (S.H.set kk _).length; rw [List.length_set]; exact k2) (by show j < (rowU (S.H.set kk _) kk).length; rw [rj, ofJ_length]; exact hjl) (by omega) (by omega) x4 nx4 M4
 have ej2 : ({ ({ moved S kk b u n j with A := (moved S kk b u n j).A.set j (atU S.A j - b * atU u j) } : AS) with H := (moved S kk b u n j).H.set kk ((rowU (moved S kk b u n j).H kk).set j (atU (rowU S.H kk) j + b * atU u j)) } : AS) = moved S kk b u n (j + 1) := by
  unfold moved
  simp only [rj, List.set_set]
  rw [ofJ_set (f := fun c => atU S.A c - b * atU u c) hjl, ofJ_set (f := fun c => atU (rowU S.H kk) c + b * atU u c) hjl]
 rw [ej2] at P4
 refine ⟨rfl, (j + 1, _), ⟨rfl, rfl, rfl, rfl, rfl, rfl, trivial⟩, ⟨(uk.trans (u2.sub fun i _ e => .inl e)).trans ⟨by omega, fun i _ hi => x4 i fun e => hi (.inr e)⟩, hjl, P4⟩, Nat.sub_lt_sub_left hjl (Nat.lt_succ_self j)⟩
theorem move_cal {vv : CVal} {u : List Int} {kk n : Nat} {b : Int} (P : PV h₀ Z h p S vT vA vS mH mC HL CL) (hk : posI S.P x = some kk) (k2 : kk < S.H.length) (lA : S.A.length = n) (lR : (rowU S.H kk).length = n) (rv : RSl Z intE h vv u) (lu : u.length = n) (n6 : n ≤ 6) (hb : b = 1 ∨ b = -1)
 (bA : ∀ j, -10000 ≤ atU S.A j ∧ atU S.A j ≤ 10000) (bR : ∀ j, -10000 ≤ atU (rowU S.H kk) j ∧ atU (rowU S.H kk) j ≤ 10000) (bu : ∀ j, 0 ≤ atU u j ∧ atU u j ≤ 1000)
 (k : ∀ h' HL', Upd (fun i => isB vA i ∨ i = mH) h h' → PV h₀ Z h' p (moved S kk b u n n) vT vA vS mH mC HL' CL → Q (.tuple []) h') : Cal tt 68 [.ptr p 0, .int .i64 x, vv, .int .i64 b] h Q :=
 Cal.run rfl rfl rfl rfl (move_w P hk k2 lA lR rv lu n6 hb bA bR bu fun _ h' HL' u P => k h' HL' u P)
theorem move_defer {vv : CVal} {u : List Int} {kk n : Nat} {b : Int} {K : Heap → Prop} (P : PV h₀ Z h p S vT vA vS mH mC HL CL) (hk : posI S.P x = some kk) (k2 : kk < S.H.length) (lA : S.A.length = n) (lR : (rowU S.H kk).length = n) (rv : RSl Z intE h vv u) (lu : u.length = n) (n6 : n ≤ 6) (hb : b = 1 ∨ b = -1)
 (bA : ∀ j, -10000 ≤ atU S.A j ∧ atU S.A j ≤ 10000) (bR : ∀ j, -10000 ≤ atU (rowU S.H kk) j ∧ atU (rowU S.H kk) j ≤ 10000) (bu : ∀ j, 0 ≤ atU u j ∧ atU u j ≤ 1000)
 (k : ∀ h' HL', Upd (fun i => isB vA i ∨ i = mH) h h' → PV h₀ Z h' p (moved S kk b u n n) vT vA vS mH mC HL' CL → K h') : DefP tt [(68, [.ptr p 0, .int .i64 x, vv, .int .i64 b])] h K := by
 unfold DefP
 exact CalD.run rfl rfl rfl (move_w P hk k2 lA lR rv lu n6 hb bA bR bu fun _ h' HL' u P => k h' HL' u P)
end
section
variable {h₀ : Heap} {Z : Nat → Prop} {h h' : Heap} {p : Nat} {S : AS} {vT vA vS : CVal} {mH mC : Nat} {HL : List ((Int × Int) × CVal)} {CL : List (Int × CVal)} {x : Int} {Q : CVal → Heap → Prop}
theorem are_cal {v : CVal} {u : List Int} (P : PV h₀ Z h p S vT vA vS mH mC HL CL) (ru : RIn h v u) (lu : u.length ≤ 1000000000) (k : Q (.bool (decide ((u.length : Int) = S.T.length) && mayU u)) h) : Cal tt 65 [.ptr p 0, v] h Q := by
 refine Cal.run rfl rfl rfl rfl ?_
 have g := P.g
 have ov := P.T.one
 (repeat' first | refine go ?_ | (refine P.T.lenS ?_) | (refine CALLN.of (is_cal ru lu ?_)) | refine idxS_ fun _ _ _ => ?_ | refine sp (fun _ => ?_) fun _ => ?_ | fail)
 exact k
end
def ftP (p : Nat) (vA vS : CVal) (mH mC : Nat) (i : Nat) : Prop := i = p ∨ i = mH ∨ i = mC ∨ isB vA i ∨ isB vS i
structure Grow (h : Heap) (Z F : Nat → Prop) (h' : Heap) (Z' F' : Nat → Prop) : Prop where
 u : Upd F h h'
 z : ∀ i, Z i → Z' i
 f : ∀ i, F i → F' i
 zn : ∀ i, Z' i → Z i ∨ (F' i ∧ h.next ≤ i)
 fn : ∀ i, F' i → F i ∨ h.next ≤ i
theorem Grow.refl (h : Heap) (Z F : Nat → Prop) : Grow h Z F h Z F := ⟨Upd.refl _ _, fun _ h => h, fun _ h => h, fun _ h => .inl h, fun _ h => .inl h⟩
theorem Grow.of {h h' : Heap} {Z F : Nat → Prop} (u : Upd F h h') : Grow h Z F h' Z F := ⟨u, fun _ h => h, fun _ h => h, fun _ h => .inl h, fun _ h => .inl h⟩
theorem Grow.exd {h h' : Heap} {Z F : Nat → Prop} (x : Exd h h') : Grow h Z F h' Z F := Grow.of x.upd
theorem Grow.trans {h h' h'' : Heap} {Z F Z' F' Z'' F'' : Nat → Prop} (a : Grow h Z F h' Z' F') (b : Grow h' Z' F' h'' Z'' F'') : Grow h Z F h'' Z'' F'' := by
 have l := a.u.le
 refine ⟨⟨Nat.le_trans l b.u.le, fun i hi hs => (b.u.get i (by omega) fun h1 => ?_).trans (a.u.get i hi hs)⟩, fun i h => b.z i (a.z i h), fun i h => b.f i (a.f i h), fun i h => ?_, fun i h => ?_⟩
 ·rcases a.fn i h1 with h2 | h2
  ·exact hs h2
  ·omega
 ·rcases b.zn i h with h1 | ⟨h1, h2⟩
  ·rcases a.zn i h1 with h3 | ⟨h3, h4⟩
   ·exact .inl h3
   ·exact .inr ⟨b.f i h3, h4⟩
  ·exact .inr ⟨h1, by omega⟩
 ·rcases b.fn i h with h1 | h1
  ·exact a.fn i h1
  ·exact .inr (by omega)
theorem Grow.rsl {α : Type} {E : El α} {h h' : Heap} {Z F Z' F' : Nat → Prop} {v : CVal} {L : List α} (g : Grow h Z F h' Z' F') (fz : ∀ i, F i → Z i) (s : RSl Z E h v L) : RSl Z' E h' v L := by
 have u' : Upd (fun i => Z i ∨ Z' i) h h' := g.u.sub fun i _ h1 => .inl (fz i h1)
 refine ((s.sub (Z' := fun i => Z i ∨ Z' i) fun i hi h1 => ?_).upd u').sub fun i _ h1 => .inr h1
 rcases h1 with h1 | h1
 ·exact h1
 ·rcases g.zn i h1 with h2 | ⟨_, h2⟩
  ·exact h2
  ·omega
theorem Grow.rr {h h' : Heap} {Z F Z' F' : Nat → Prop} {q : Nat} {S : AS} (g : Grow h Z F h' Z' F') (fz : ∀ i, F i → Z i) (zl : ∀ i, Z' i → i < h'.next) (hq : ¬ F q) (R : RR Z h q S) : RR Z' h' q S := by
 obtain ⟨vT, vA, vP, vH, vC, vW, R⟩ := R
 refine ⟨vT, vA, vP, vH, vC, vW, R.frame g.u (fun i _ h1 => ⟨fz i h1, fun e => hq (e ▸ h1)⟩) (fun i hi h1 => ?_) (g.z q R.zq) zl⟩
 rcases g.zn i h1 with h2 | ⟨_, h2⟩
 ·exact h2
 ·omega
section
variable {h₀ : Heap} {Z Z' : Nat → Prop} {h h' : Heap} {p : Nat} {S : AS} {vT vA vS : CVal} {mH mC : Nat} {HL : List ((Int × Int) × CVal)} {CL : List (Int × CVal)} {x : Int} {Q : CVal → Heap → Prop}
theorem PV.ftz (P : PV h₀ Z h p S vT vA vS mH mC HL CL) {i : Nat} (hi : ftP p vA vS mH mC i) : Z i := by
 rcases hi with rfl | rfl | rfl | hi | hi
 ·exact P.zp
 ·exact P.zh
 ·exact P.zc
 ·exact P.za i hi
 ·exact P.zs i hi
theorem PV.frame {U : Nat → Prop} (P : PV h₀ Z h p S vT vA vS mH mC HL CL) (u : Upd U h h') (hu : ∀ i, i < h.next → U i → Z i ∧ ¬ ftP p vA vS mH mC i) (hz : ∀ i, i < h.next → Z' i → Z i) (hf : ∀ i, ftP p vA vS mH mC i → Z' i) (hl : ∀ i, Z' i → i < h'.next) : PV h₀ Z' h' p S vT vA vS mH mC HL CL := by
 have hget : ∀ i, ftP p vA vS mH mC i → h'.get i = h.get i := fun i hi => u.get i (P.zl i (P.ftz hi)) fun h1 => (hu i (P.zl i (P.ftz hi)) h1).2 hi
 have u' : Upd (fun i => Z i ∨ Z' i) h h' := u.sub fun i hi h1 => .inl (hu i hi h1).1
 have f : ∀ {α : Type} {E : El α} {v : CVal} {L : List α}, RSl Z E h v L → RSl Z' E h' v L := fun s => ((s.sub (Z' := fun i => Z i ∨ Z' i) fun i hi h1 => h1.elim id (hz i hi)).upd u').sub fun i _ h1 => .inr h1
 refine ⟨hf _ (.inl rfl), hf _ (.inr (.inl rfl)), hf _ (.inr (.inr (.inl rfl))), fun b hb => hf _ (.inr (.inr (.inr (.inl hb)))), fun b hb => hf _ (.inr (.inr (.inr (.inr hb)))), hl, P.n1, P.n2, P.n3, (hget _ (.inl rfl)).trans P.g, f P.T, P.A.frame u.le (fun i o hi g _ => (hget i (.inr (.inr (.inr (.inl hi))))).trans g), P.H.of_get (hget _ (.inr (.inl rfl))), P.C.of_get (hget _ (.inr (.inr (.inl rfl)))), ?_, P.hk, P.hr, P.hv, P.ck, fun k hk => ?_⟩
 ·exact ((P.W.sub (Z' := fun i => Z i ∨ Z' i) fun i hi h1 => h1.elim id (hz i hi)).upd u fun i hi h1 => ⟨.inl (hu i hi h1).1, fun hb => (hu i hi h1).2 (.inr (.inr (.inr (.inr hb))))⟩).sub fun i _ h1 => .inr h1
 ·obtain ⟨w, e, r⟩ := P.cv k hk
  exact ⟨w, e, f r⟩
end
structure PF (Z : Nat → Prop) (h : Heap) (F : Nat → Prop) (p : Nat) (S : AS) : Prop where
 e : ∃ h₀ vT vA vS mH mC HL CL, PV h₀ Z h p S vT vA vS mH mC HL CL ∧ GSlW Z askE h vS S.W ∧ ∀ i, ftP p vA vS mH mC i → F i
 fz : ∀ i, F i → Z i
structure PN (Z : Nat → Prop) (h : Heap) (F : Nat → Prop) (p : Nat) (S : AS) : Prop where
 e : ∃ v T, S = newS T S.cl ∧ h.get p = some (.cells [v, .bool S.cl, .int .u32 0, .int .i32 0, .int .u32 0, .nilSlice, .nilMap, .nilMap, .nilSlice] true none) ∧ RSl Z intE h v T
 zl : ∀ i, Z i → i < h.next
 fp : F p
 fz : ∀ i, F i → Z i
def PQ (Z : Nat → Prop) (h : Heap) (F : Nat → Prop) (p : Nat) (S : AS) : Prop := PF Z h F p S ∨ PN Z h F p S
section
variable {Z F Z' U : Nat → Prop} {h h' : Heap} {p : Nat} {S : AS}
theorem PF.zl (P : PF Z h F p S) : ∀ i, Z i → i < h.next := by
 obtain ⟨_, _, _, _, _, _, _, _, P, _, _⟩ := P.e
 exact P.zl
theorem PF.frame (P : PF Z h F p S) (u : Upd U h h') (hu : ∀ i, i < h.next → U i → Z i ∧ ¬ F i) (hz : ∀ i, i < h.next → Z' i → Z i) (hf : ∀ i, Z i → Z' i) (hl : ∀ i, Z' i → i < h'.next) : PF Z' h' F p S := by
 obtain ⟨⟨a, b, c, d, e, f, g, i, P, W, hF⟩, fz⟩ := P
 have hW : ∀ i, isB d i → F i := fun i h => hF i (.inr (.inr (.inr (.inr h))))
 have W' : GSlW Z' askE h' d S.W := by
  have := GSlW.upd (Z := fun i => Z i ∨ Z' i) (S := U) (h := h) (h' := h') ⟨W.1.sub fun i hi h1 => h1.elim id (hz i hi), W.2⟩ u fun i hi h1 => ⟨.inl (hu i hi h1).1, fun h2 => (hu i hi h1).2 (hW i h2)⟩
  exact ⟨this.1.sub fun i _ h1 => .inr h1, this.2⟩
 exact ⟨⟨a, b, c, d, e, f, g, i, P.frame u (fun i hi h1 => ⟨(hu i hi h1).1, fun h2 => (hu i hi h1).2 (hF i h2)⟩) hz (fun i h1 => hf i (fz i (hF i h1))) hl, W', hF⟩, fun i h1 => hf i (fz i h1)⟩
theorem PN.frame (P : PN Z h F p S) (u : Upd U h h') (hu : ∀ i, i < h.next → U i → Z i ∧ ¬ F i) (hz : ∀ i, i < h.next → Z' i → Z i) (hf : ∀ i, Z i → Z' i) (hl : ∀ i, Z' i → i < h'.next) : PN Z' h' F p S := by
 obtain ⟨⟨v, T, e, g, r⟩, zl, fp, fz⟩ := P
 have hp := zl p (fz p fp)
 have u' : Upd (fun i => Z i ∨ Z' i) h h' := u.sub fun i hi h1 => .inl (hu i hi h1).1
 exact ⟨⟨v, T, e, (u.get p hp fun h1 => (hu p hp h1).2 fp).trans g, ((r.sub (Z' := fun i => Z i ∨ Z' i) fun i hi h1 => h1.elim id (hz i hi)).upd u').sub fun i _ h1 => .inr h1⟩, hl, fp, fun i h1 => hf i (fz i h1)⟩
theorem PQ.frame (P : PQ Z h F p S) (u : Upd U h h') (hu : ∀ i, i < h.next → U i → Z i ∧ ¬ F i) (hz : ∀ i, i < h.next → Z' i → Z i) (hf : ∀ i, Z i → Z' i) (hl : ∀ i, Z' i → i < h'.next) : PQ Z' h' F p S :=
 P.imp (fun P => P.frame u hu hz hf hl) fun P => P.frame u hu hz hf hl
theorem PQ.zl (P : PQ Z h F p S) : ∀ i, Z i → i < h.next := P.elim PF.zl PN.zl
theorem PQ.fz (P : PQ Z h F p S) : ∀ i, F i → Z i := P.elim PF.fz PN.fz
theorem PQ.exd (P : PQ Z h F p S) (x : Exd h h') : PQ Z h' F p S := P.frame (U := fun _ => False) ⟨x.le, fun i hi _ => x.get i hi⟩ (fun _ _ f => f.elim) (fun _ _ h => h) (fun _ h => h) fun i hi => Nat.lt_of_lt_of_le (P.zl i hi) x.le
theorem PF.exd (P : PF Z h F p S) (x : Exd h h') : PF Z h' F p S := P.frame (U := fun _ => False) ⟨x.le, fun i hi _ => x.get i hi⟩ (fun _ _ f => f.elim) (fun _ _ h => h) (fun _ h => h) fun i hi => Nat.lt_of_lt_of_le (P.zl i hi) x.le
theorem PQ.ref {q : Nat} (P : PQ Z h F p S) (u : Upd (fun i => i = q) h h') (zq : Z q) (fq : ¬ F q) : PQ Z h' F p S := P.frame u (fun i _ e => by rw [e]; exact ⟨zq, fq⟩) (fun _ _ h => h) (fun _ h => h) fun i hi => Nat.lt_of_lt_of_le (P.zl i hi) u.le
end
theorem posI_self {P : List Int} (ps : P.Pairwise (· < ·)) {j : Nat} (hj : j < P.length) : posI P (P.getD j 0) = some j := by
 refine posI_some hj rfl fun p hp e => ?_
 have h1 := List.pairwise_iff_getElem.1 ps p j (by omega) hj hp
 rw [List.getD_eq_getElem?_getD, List.getD_eq_getElem?_getD, List.getElem?_eq_getElem (by omega), List.getElem?_eq_getElem hj] at e
 simp only [Option.getD_some] at e
 omega
theorem take_rowU {M : List (List Int)} {j : Nat} (hj : j < M.length) : M.take (j + 1) = M.take j ++ [rowU M j] := by
 rw [List.take_add_one, List.getElem?_eq_getElem hj, rowU_at hj]; rfl
section
variable {h₀ : Heap} {Z : Nat → Prop} {h : Heap} {p : Nat} {S : AS} {vT vA vS : CVal} {mH mC : Nat} {HL : List ((Int × Int) × CVal)} {CL : List (Int × CVal)} {x : Int} {Q : CVal → Heap → Prop}
set_option maxHeartbeats 1000000 in
theorem safeB_cal (P : PV h₀ Z h p S vT vA vS mH mC HL CL) (G : GoodS S) (k : ∀ h', Exd h h' → Q (.bool (safeS S)) h') : Cal tt 23 [.ptr p 0] h Q := by
 refine Cal.run rfl rfl rfl rfl ?_
 have t6 := G.t6
 have p32 := G.p32
 have lH := G.hl
 have lC := G.cl
 (repeat' first | refine go ?_ | refine idxS_ fun _ _ _ => ?_ | refine sp (fun _ => ?_) fun _ => ?_ | fail)
 refine CALLN.of (pidsB_cal P G fun vp h1 x1 rp bp => ?_)
 have P1 := P.exd x1
 (repeat' first | refine go ?_ | refine idxS_ fun _ _ _ => ?_ | refine sp (fun _ => ?_) fun _ => ?_ | fail)
 refine loopC (fun y : Nat × CVal × CVal => [(0, .ptr p 0), (3, y.2.1), (4, y.2.2), (10, vp), (11, .int .i64 S.P.length), (12, .int .i64 y.1)]) (fun y h' => Exd h1 h' ∧ y.1 ≤ S.P.length ∧ GSl (fun i => isB y.2.2 i) rowE h' y.2.1 (S.H.take y.1) ∧ GSl (fun i => h1.next ≤ i) rowE h' y.2.2 (S.C.take y.1) ∧ (∀ b, isB y.2.1 b → h1.next ≤ b) ∧ (∀ b, isB y.2.2 b → h1.next ≤ b) ∧ ∀ b, isB y.2.1 b → ¬ isB y.2.2 b) (fun y => S.P.length - y.1) (0, .nilSlice, .nilSlice) ⟨rfl, rfl, rfl, rfl, rfl, rfl, trivial⟩ ⟨Exd.refl _, Nat.zero_le _, GSl.nil, GSl.nil, fun b hb => (isB_nil hb).elim, fun b hb => (isB_nil hb).elim, fun b hb => (isB_nil hb).elim⟩ ?_
 rintro ⟨j, vh, vc⟩ ρ h' ⟨xk, hj, Gh, Gc, hb, cb, ne⟩
 simp only at hj Gh Gc hb cb ne ⊢
 have P' := P1.exd xk
 have g' := P'.g
 have oh := Gh.one
 have oc := Gc.one
 by_cases hjl : j < S.P.length
 rotate_left
 ·obtain rfl : j = S.P.length := by omega
  rw [List.take_of_length_le (by omega)] at Gh Gc
  have lA := G.a
  have oA := P'.A.one
  (repeat' first | refine go ?_ | refine idxS_ fun _ _ _ => ?_ | refine sp (fun _ => ?_) fun _ => ?_ | fail)
  refine CALLN.of (bsafe_cal P'.A.rin (((Gh.sub (Z' := fun _ => False) fun _ _ f => f.elim).read fun _ _ f => f).rrows G.lenH) (((Gc.sub (Z' := fun _ => False) fun _ _ f => f.elim).read fun _ _ f => f).rrows G.lenC) (by omega) fun h2 x2 => ?_)
  (repeat' first | refine go ?_ | refine idxS_ fun _ _ _ => ?_ | refine sp (fun _ => ?_) fun _ => ?_ | fail)
  exact k _ (x1.trans (xk.trans x2))
 have ej : (j : Int).toNat = j := Int.toNat_natCast j
 have rp' := rp.exd xk
 obtain ⟨w, ew, r1⟩ := P1.cv j hjl
 have ow := r1.one
 obtain ⟨st, gm, sm, nm⟩ := P'.C
 obtain ⟨N1, hN1⟩ : ∃ N, h'.next = N := ⟨_, rfl⟩
 have lk := xk.le
 have x2 : Exd h' (h'.new (.cells [w] true none)) := Exd.new (Exd.refl _)
 have src : srcC (h'.new (.cells [w] true none)) 1 (.slice N1 0 1 1) = some (1, [w]) := src_one (by exact get_) rfl rfl
 have hec : rowE.ok (fun i => h1.next ≤ i ∨ isB vc i) (h'.new (.cells [w] true none)) [w] (rowU S.C j) := slE.ok ((r1.sub fun i hi h => h.elim (fun h => by omega) fun h => by have := cb i h; omega).exd (xk.trans x2))
 obtain ⟨h3, ea, u3, n3, G3⟩ := (Gc.exd x2).push1 (bytes := 24) (a := rowU S.C j) (N := N1 + 1) src (by rw [List.length_take]; omega) hec (by rw [Heap.next_new, hN1])
 have l3 := u3.le
 rw [Heap.next_new] at l3
 have x03 : Exd h1 h3 := ⟨by omega, fun i hi => (u3.get i (by rw [Heap.next_new]; omega) fun hb => by have := cb i hb; omega).trans ((xk.trans x2).get i hi)⟩
 (repeat' first | refine go ?_ | ((refine RIn.idxS rp' (by omega) fun b o g => ?_; rw [ej] at g)) | (refine lkF KeyE.int ew ?_) | (refine SOMEN.mk ea ?_) | refine idxS_ fun _ _ _ => ?_ | refine sp (fun _ => ?_) fun _ => ?_ | fail)
 refine CALLN.of (heldB_cal (P1.exd x03) G fun v h4 x4 Gv vb => ?_)
 have x4 : Exd h3 h4 := x4
 have vb : ∀ b, isB v b → h3.next ≤ b := vb
 rw [rowOf, posI_self G.ps hjl] at Gv
 have ov := Gv.one
 have u03 : Upd (isB vc) h' h3 := x2.upd.trans u3
 have Gh3 : GSl (fun i => isB (.slice (N1 + 1) 0 ((S.C.take j).length + 1) ((S.C.take j).length + 1)) i) rowE h3 vh (S.H.take j) := ((Gh.sub (Z' := fun i => isB vc i ∨ h'.next ≤ i) fun i hi h => h.elim id fun h => by omega).upd u03 fun i _ hi => ⟨.inl hi, fun h => ne i h hi⟩).sub fun i _ h => .inr (by rw [isB_slice] at h; omega)
 obtain ⟨N4, hN4⟩ : ∃ N, h4.next = N := ⟨_, rfl⟩
 have l4 := x4.le
 have vhl := Gh.1
 have x5 : Exd h4 (h4.new (.cells [v] true none)) := Exd.new (Exd.refl _)
 have src5 : srcC (h4.new (.cells [v] true none)) 1 (.slice N4 0 1 1) = some (1, [v]) := src_one (by exact get_) rfl rfl
 have heh : rowE.ok (fun i => (fun i => isB (.slice (N1 + 1) 0 ((S.C.take j).length + 1) ((S.C.take j).length + 1)) i) i ∨ isB vh i) (h4.new (.cells [v] true none)) [v] (rowU S.H j) := slE.ok (((Gv.ints_any : GSl (fun i => isB (.slice (N1 + 1) 0 ((S.C.take j).length + 1) ((S.C.take j).length + 1)) i ∨ isB vh i) intE h4 v (rowU S.H j)).read fun b hb h => by
  have := vb b hb
  rcases h with h | h
  ·rw [isB_slice] at h; omega
  ·have := vhl b h; omega).exd x5)
 obtain ⟨h6, e6, u6, n6, G6⟩ := (Gh3.exd (x4.trans x5)).push1 (bytes := 24) (a := rowU S.H j) (N := N4 + 1) src5 (by rw [List.length_take]; omega) heh (by rw [Heap.next_new, hN4])
 (repeat' first | refine go ?_ | (refine SOMEN.mk e6 ?_) | refine idxS_ fun _ _ _ => ?_ | refine sp (fun _ => ?_) fun _ => ?_ | fail)
 refine ⟨rfl, (j + 1, _, _), ⟨rfl, rfl, rfl, rfl, rfl, rfl, trivial⟩, ⟨(⟨by omega, fun i hi => (u6.get i (by rw [Heap.next_new]; omega) fun hh => by have := hb i hh; omega).trans (((x4.trans x5).get i (by omega)).trans (x03.get i hi))⟩ : Exd h1 h6), by show j + 1 ≤ S.P.length; omega, by show GSl _ _ h6 _ (S.H.take (j + 1)); rw [take_rowU (by omega)]; exact G6, ?_, fun b h => by rw [isB_slice] at h; omega, fun b h => by rw [isB_slice] at h; omega, fun b h h2 => by rw [isB_slice] at h h2; omega⟩, by simp only; omega⟩
 show GSl _ _ h6 _ (S.C.take (j + 1))
 rw [take_rowU (by omega)]
 exact (G3.exd (x4.trans x5)).upd u6 fun i _ h => ⟨hb i h, fun h2 => by rw [isB_slice] at h2; have := vhl i h; omega⟩
end
theorem ofJ_all {n : Nat} {f g : Nat → Int} {R : List Int} (hl : R.length = n) (h : ∀ c, c < n → f c = atU R c) : ofJ n (upTo n f g) = R := by
 rw [ofJ_congr (g := atU R) fun c hc => by simp only [upTo, if_pos hc]; exact h c hc, ← hl, ofJ_atU]
theorem moved_sub {S : AS} {kk n : Nat} {u : List Int} (lA : S.A.length = n) (lR : (rowU S.H kk).length = n) : moved S kk 1 u n n = { S with A := subU S.A u, H := S.H.set kk (addU (rowU S.H kk) u) } := by
 unfold moved
 rw [ofJ_all (R := subU S.A u) (by rw [subU_len]; exact lA) fun c hc => by rw [atU_sub (by omega)]; omega, ofJ_all (R := addU (rowU S.H kk) u) (by rw [addU_len]; exact lR) fun c hc => by rw [atU_add (by omega)]; omega]
theorem moved_add {S : AS} {kk n : Nat} {u : List Int} (lA : S.A.length = n) (lR : (rowU S.H kk).length = n) : moved S kk (-1) u n n = { S with A := addU S.A u, H := S.H.set kk (subU (rowU S.H kk) u) } := by
 unfold moved
 rw [ofJ_all (R := addU S.A u) (by rw [addU_len]; exact lA) fun c hc => by rw [atU_add (by omega)]; omega, ofJ_all (R := subU (rowU S.H kk) u) (by rw [subU_len]; exact lR) fun c hc => by rw [atU_sub (by omega)]; omega]
theorem addU_subU {A u : List Int} : addU (subU A u) u = A := by
 refine (ofJ_congr (g := atU A) fun c hc => ?_).trans (by rw [subU_len, ofJ_atU])
 rw [subU_len] at hc
 rw [atU_sub hc]
 omega
theorem subU_addU {A u : List Int} : subU (addU A u) u = A := by
 refine (ofJ_congr (g := atU A) fun c hc => ?_).trans (by rw [addU_len, ofJ_atU])
 rw [addU_len] at hc
 rw [atU_add hc]
 omega
theorem moved_back {S : AS} {kk n : Nat} {u : List Int} (lA : S.A.length = n) (lR : (rowU S.H kk).length = n) (k2 : kk < S.H.length) : moved (moved S kk 1 u n n) kk (-1) u n n = S := by
 have e : rowU (S.H.set kk (addU (rowU S.H kk) u)) kk = addU (rowU S.H kk) u := by rw [rowU_set k2, if_pos rfl]
 rw [moved_sub lA lR, moved_add (by rw [subU_len]; exact lA) (by simp only; rw [e, addU_len]; exact lR)]
 simp only
 rw [e, addU_subU, subU_addU, List.set_set, rowU_at k2, List.set_getElem_self]
section
variable {h₀ : Heap} {Z : Nat → Prop} {h : Heap} {p : Nat} {S : AS} {vT vA vS : CVal} {mH mC : Nat} {HL : List ((Int × Int) × CVal)} {CL : List (Int × CVal)} {x : Int} {Q : CVal → Heap → Prop}
set_option maxHeartbeats 1000000 in
theorem mayB_cal {vu : CVal} {u : List Int} {bh : Bool} (P : PV h₀ Z h p S vT vA vS mH mC HL CL) (G : GoodS S) (hx : x ∈ S.P) (ru : RSl Z intE h vu u) (hu : rowOk S.T.length u = true)
 (k : ∀ h' HL', Upd (fun i => isB vA i ∨ i = mH) h h' → PV h₀ Z h' p S vT vA vS mH mC HL' CL → Q (.bool (grantsS S (x, u) (!bh))) h') : Cal tt 94 [.ptr p 0, .agg [.int .i64 x, vu], .bool bh] h Q := by
 obtain ⟨N, hN⟩ : ∃ N, h.next = N := ⟨_, rfl⟩
 refine Cal.run rfl rfl rfl rfl ?_
 have ou := ru.one
 obtain ⟨kk, ek, k1, k2, k3⟩ := G.pos hx
 obtain ⟨q1, q2⟩ := rowOk_split hu
 have t6 := G.t6
 have lA := G.a
 have hRm := rowU_mem k2
 have lR := (G.h _ hRm).1
 have x1 : Exd h (h.new (.cells [.int .i64 x, vu] true none)) := Exd.new (Exd.refl _)
 have P1 := P.exd x1
 have g1 := P1.g
 have gN : (h.new (.cells [.int .i64 x, vu] true none)).get N = some (.cells [.int .i64 x, vu] true none) := by exact get_
 have nN : N < (h.new (.cells [.int .i64 x, vu] true none)).next := by exact lt_
 have ru1 := ru.exd x1
 have oA := P1.A.one
 (repeat' first | refine go ?_ | refine idxS_ fun _ _ _ => ?_ | refine sp (fun _ => ?_) fun _ => ?_ | fail)
 refine CALLN.of (fits_cal ru1.rin P1.A.rin (by omega) (by omega) fun h2 x2 => ?_)
 have x02 := x1.trans x2
 have P2 := P.exd x02
 have g2 := P2.g
 have gN2 := x2.skip nN gN
 have nN2 : N < h2.next := Nat.lt_of_lt_of_le nN x2.le
 have ru2 := ru.exd x02
 clear x2 gN nN
 cases hf : fitsU u S.A
 ·rw [show grantsS S (x, u) (!bh) = false by simp only [grantsS, ek, hf, Bool.false_and]] at k
  (repeat' first | refine go ?_ | refine idxS_ fun _ _ _ => ?_ | refine sp (fun _ => ?_) fun _ => ?_ | fail)
  exact k _ _ x02.upd P2
 cases hcl : S.cl
 ·rw [show grantsS S (x, u) (!bh) = true by simp only [grantsS, ek, hf, hcl]; rfl] at k
  rw [hcl] at g2
  (repeat' first | refine go ?_ | refine idxS_ fun _ _ _ => ?_ | refine sp (fun _ => ?_) fun _ => ?_ | fail)
  exact k _ _ x02.upd P2
 have key : grantsS S (x, u) (!bh) = (!(noneU (rowU S.H kk) && bh) && safeU (subU S.A u) (S.H.set kk (addU (rowU S.H kk) u)) S.C) := by simp only [grantsS, ek, hf, hcl, Bool.not_not]; rfl
 rw [key] at k
 have bA : ∀ j, -10000 ≤ atU S.A j ∧ atU S.A j ≤ 10000 := fun j => by have := G.a0 j; have := G.atA j; omega
 have bR : ∀ j, -10000 ≤ atU (rowU S.H kk) j ∧ atU (rowU S.H kk) j ≤ 10000 := fun j => by have := G.atH hRm j; omega
 have bu : ∀ j, 0 ≤ atU u j ∧ atU u j ≤ 1000 := fun j => mayU_atU q2 j
 rw [hcl] at g2
 have hNA : ¬ (isB vA N ∨ N = mH) := fun h => by
  rcases h with h | h
  ·have := P.zl _ (P.za _ h); omega
  ·have := P.zl _ P.zh; omega
 have G4 : GoodS (moved S kk 1 u S.T.length S.T.length) := by
  have := G.grant (x := (x, u)) hx hu hf
  rw [grantM (x := (x, u)) ek] at this
  rw [moved_sub lA lR]; exact this
 have k4 : kk < (moved S kk 1 u S.T.length S.T.length).H.length := by show kk < (S.H.set kk _).length; rw [List.length_set]; exact k2
 have e4 : safeS (moved S kk 1 u S.T.length S.T.length) = safeU (subU S.A u) (S.H.set kk (addU (rowU S.H kk) u)) S.C := by rw [moved_sub lA lR]; rfl
 have hz : ∀ i, isB vA i ∨ i = mH → Z i := fun i e => e.elim (P.za i) fun e => by rw [e]; exact P.zh
 cases bh
 ·rw [Bool.and_false, Bool.not_false, Bool.true_and, ← e4] at k
  have P3 := P2
  have gN3 := gN2
  have nN3 := nN2
  have ru3 := ru2
  have x03 := x02
  (repeat' first | refine go ?_ | refine idxS_ fun _ _ _ => ?_ | refine sp (fun _ => ?_) fun _ => ?_ | fail)
  refine CALLN.of (move_cal P3 ek k2 (n := S.T.length) lA lR ru3 q1 t6 (.inl rfl) bA bR bu fun h4 HL4 u4 P4 => ?_)
  have gN4 := (u4.get N nN3 hNA).trans gN3
  have ru4 := ru3.upd (u4.sub fun i _ e => hz i e)
  have bA4 : ∀ j, -10000 ≤ atU (moved S kk 1 u S.T.length S.T.length).A j ∧ atU (moved S kk 1 u S.T.length S.T.length).A j ≤ 10000 := fun j => by have := G4.a0 j; have := G4.atA j; omega
  have bR4 : ∀ j, -10000 ≤ atU (rowU (moved S kk 1 u S.T.length S.T.length).H kk) j ∧ atU (rowU (moved S kk 1 u S.T.length S.T.length).H kk) j ≤ 10000 := fun j => by have := G4.atH (rowU_mem k4) j; omega
  (repeat' first | refine go ?_ | refine idxS_ fun _ _ _ => ?_ | refine sp (fun _ => ?_) fun _ => ?_ | fail)
  refine CALLN.of (safeB_cal P4 G4 fun h5 x5 => ?_)
  (repeat' first | refine go ?_ | refine idxS_ fun _ _ _ => ?_ | refine sp (fun _ => ?_) fun _ => ?_ | fail)
  refine DEFN.mk (move_defer (P4.exd x5) ek k4 (ofJ_length _ _) (G4.h _ (rowU_mem k4)).1 (ru4.exd x5) q1 t6 (.inr rfl) bA4 bR4 bu fun h6 HL6 u6 P6 => ?_)
  rw [moved_back lA lR k2] at P6
  (repeat' first | refine go ?_ | refine idxS_ fun _ _ _ => ?_ | refine sp (fun _ => ?_) fun _ => ?_ | fail)
  exact k _ _ (x03.upd.trans (u4.trans (x5.upd.trans u6))) P6
 ·rw [Bool.and_true, ← e4] at k
  have lR' : (rowU S.H kk).length ≤ 1000000000 := by omega
  (repeat' first | refine go ?_ | refine idxS_ fun _ _ _ => ?_ | refine sp (fun _ => ?_) fun _ => ?_ | fail)
  refine CALLN.of (heldB_cal P2 G fun v h3 x3 Gv vb => ?_)
  have x3 : Exd h2 h3 := x3
  rw [rowOf, ek] at Gv
  have ov := Gv.one
  have P3 := P2.exd x3
  have gN3 := x3.skip nN2 gN2
  have nN3 := Nat.lt_of_lt_of_le nN2 x3.le
  have ru3 := ru2.exd x3
  have x03 := x02.trans x3
  (repeat' first | refine go ?_ | refine idxS_ fun _ _ _ => ?_ | refine sp (fun _ => ?_) fun _ => ?_ | fail)
  refine CALLN.of (unone_cal Gv.ints lR' ?_)
  cases hn : noneU (rowU S.H kk)
  rotate_left
  ·rw [hn] at k
   (repeat' first | refine go ?_ | refine idxS_ fun _ _ _ => ?_ | refine sp (fun _ => ?_) fun _ => ?_ | fail)
   exact k _ _ x03.upd P3
  rw [hn, Bool.not_false, Bool.true_and] at k
  (repeat' first | refine go ?_ | refine idxS_ fun _ _ _ => ?_ | refine sp (fun _ => ?_) fun _ => ?_ | fail)
  refine CALLN.of (move_cal P3 ek k2 (n := S.T.length) lA lR ru3 q1 t6 (.inl rfl) bA bR bu fun h4 HL4 u4 P4 => ?_)
  have gN4 := (u4.get N nN3 hNA).trans gN3
  have ru4 := ru3.upd (u4.sub fun i _ e => hz i e)
  have bA4 : ∀ j, -10000 ≤ atU (moved S kk 1 u S.T.length S.T.length).A j ∧ atU (moved S kk 1 u S.T.length S.T.length).A j ≤ 10000 := fun j => by have := G4.a0 j; have := G4.atA j; omega
  have bR4 : ∀ j, -10000 ≤ atU (rowU (moved S kk 1 u S.T.length S.T.length).H kk) j ∧ atU (rowU (moved S kk 1 u S.T.length S.T.length).H kk) j ≤ 10000 := fun j => by have := G4.atH (rowU_mem k4) j; omega
  (repeat' first | refine go ?_ | refine idxS_ fun _ _ _ => ?_ | refine sp (fun _ => ?_) fun _ => ?_ | fail)
  refine CALLN.of (safeB_cal P4 G4 fun h5 x5 => ?_)
  (repeat' first | refine go ?_ | refine idxS_ fun _ _ _ => ?_ | refine sp (fun _ => ?_) fun _ => ?_ | fail)
  refine DEFN.mk (move_defer (P4.exd x5) ek k4 (ofJ_length _ _) (G4.h _ (rowU_mem k4)).1 (ru4.exd x5) q1 t6 (.inr rfl) bA4 bR4 bu fun h6 HL6 u6 P6 => ?_)
  rw [moved_back lA lR k2] at P6
  (repeat' first | refine go ?_ | refine idxS_ fun _ _ _ => ?_ | refine sp (fun _ => ?_) fun _ => ?_ | fail)
  exact k _ _ (x03.upd.trans (u4.trans (x5.upd.trans u6))) P6
end
theorem GSlW.push1 {α : Type} {Z : Nat → Prop} {E : El α} {h : Heap} {v src : CVal} {L : List α} {bytes N : Nat} {xs : List CVal} {a : α} (s : GSl Z E h v L) (hx : srcC h E.sz src = some (1, xs)) (hb : (L.length + 1) * bytes ≤ 1099511627776) (he : E.ok (fun i => Z i ∨ isB v i) h xs a) (hN : h.next = N) :
 ∃ h2, appendC h E.sz bytes v src = some (.slice N 0 (L.length + 1) (L.length + 1), h2) ∧ Upd (isB v) h h2 ∧ h2.next = N + 1 ∧ GSlW Z E h2 (.slice N 0 (L.length + 1) (L.length + 1)) (L ++ [a]) := by
 subst hN
 have hl := E.len he
 obtain ⟨h2, h3, h4, h5, h6, cs, h7⟩ := s.pushW (M := [a]) (bytes := bytes) hx (Nat.succ_pos _) hb (by simp [hl]) (E.one he) (fun j hj => by
  have e : j = 0 := by simpa using hj
  subst e
  rw [chunk_one hl]
  exact he)
 exact ⟨h2, h3, h4, h5, h6, fun b hb => by rw [isB_slice] at hb; rw [hb]; exact ⟨_, _, h7⟩⟩
theorem GSlW.nil {α : Type} {Z : Nat → Prop} {E : El α} {h : Heap} : GSlW Z E h .nilSlice [] := ⟨GSl.nil, fun _ hb => (isB_nil hb).elim⟩
theorem GSlW.self {α : Type} {Z : Nat → Prop} {E : El α} {h : Heap} {v : CVal} {L : List α} (s : GSlW Z E h v L) : GSlW (fun i => Z i ∨ isB v i) E h v L := by
 obtain ⟨⟨s1, cs, s2, s3⟩, w⟩ := s
 exact ⟨⟨s1, cs, s2, fun j hj => E.sub (fun i _ h => h.elim id .inr) (s3 j hj)⟩, w⟩
theorem GSlW.sub {α : Type} {Z Z' : Nat → Prop} {E : El α} {h : Heap} {v : CVal} {L : List α} (s : GSlW Z E h v L) (u : ∀ i, i < h.next → Z' i → Z i) : GSlW Z' E h v L := ⟨s.1.sub u, s.2⟩
structure ScanB (Z : Nat → Prop) (h₀ hs h : Heap) (p : Nat) (S S' : AS) (vT vA vS : CVal) (mH mC : Nat) (CL : List (Int × CVal)) (vl vo : CVal) (i : Nat) (left : List (Int × List Int)) (out : List Int) : Prop where
 u : Upd (fun i => isB vA i ∨ i = mH) hs h
 R : ∃ HL, PV h₀ (fun i => Z i ∨ isB vl i ∨ isB vo i) h p S' vT vA vS mH mC HL CL
 l : GSlW (fun i => Z i ∨ isB vo i) askE h vl left
 o : GSl Z intE h vo out
 lb : ∀ b, isB vl b → hs.next ≤ b
 ob : ∀ b, isB vo b → hs.next ≤ b
 ne : ∀ b, isB vl b → ¬ isB vo b
 s : scanL (S.W.drop i) S' left out = scanS S
 G : GoodS S'
 eP : S'.P = S.P
 eT : S'.T = S.T
 eW : S'.W = S.W
 il : i ≤ S.W.length
 ll : left.length ≤ i
 lo : out.length ≤ i
section
variable {h₀ : Heap} {Z : Nat → Prop} {h : Heap} {p : Nat} {S : AS} {vT vA vS : CVal} {mH mC : Nat} {HL : List ((Int × Int) × CVal)} {CL : List (Int × CVal)} {Q : CVal → Heap → Prop}
theorem PV.putW {vl : CVal} {W' : List (Int × List Int)} (P : PV h₀ Z h p S vT vA vS mH mC HL CL) (zb : ∀ b, isB vl b → Z b) (hn : ∀ b, isB vl b → ¬ ftP p vA vS mH mC b) (l : RGl Z askE h vl W') :
 PV h₀ Z (h.set p (.cells [vT, .bool S.cl, .int .u32 1, .int .i32 0, .int .u32 0, vA, .map mH, .map mC, vl] true none)) p { S with W := W' } vT vA vl mH mC HL CL := by
 have u : Upd (fun i => i = p) h (h.set p (.cells [vT, .bool S.cl, .int .u32 1, .int .i32 0, .int .u32 0, vA, .map mH, .map mC, vl] true none)) := Upd.set (Upd.refl _ _) (.inl rfl)
 have uz := u.sub (S' := Z) fun i _ e => by rw [e]; exact P.zp
 have hp : ∀ b, isB vl b → b ≠ p := fun b hb e => hn b hb (.inl e)
 refine ⟨P.zp, P.zh, P.zc, P.za, zb, fun i hi => by rw [Heap.next_set]; exact P.zl i hi, P.n1, fun b hb => ?_, fun b hb => ?_, Heap.set_at rfl, P.T.upd uz, P.A.frame u.le (fun i o hi g _ => (Heap.get_set_ne _ _ _ _ (P.n2 i hi).1).trans g), P.H.of_get (Heap.get_set_ne _ _ _ _ (Ne.symm P.n1.1)), P.C.of_get (Heap.get_set_ne _ _ _ _ (Ne.symm P.n1.2.1)), l.upd u fun i _ e => by rw [e]; exact ⟨P.zp, fun h => hp p h rfl⟩, P.hk, P.hr, P.hv, P.ck, fun k hk => ?_⟩
 ·obtain ⟨a, b', c, d⟩ := P.n2 b hb
  exact ⟨a, b', c, fun h => hn b h (.inr (.inr (.inr (.inl hb))))⟩
 ·exact ⟨fun e => hn b hb (.inl e), fun e => hn b hb (.inr (.inl e)), fun e => hn b hb (.inr (.inr (.inl e)))⟩
 ·obtain ⟨w, e, r⟩ := P.cv k hk
  exact ⟨w, e, r.upd uz⟩
set_option maxHeartbeats 2000000 in
theorem scanB_cal (P : PV h₀ Z h p S vT vA vS mH mC HL CL) (G : GoodS S)
 (k : ∀ v h' vS' HL', Upd (fun i => i = p ∨ isB vA i ∨ i = mH) h h' → PV h₀ (fun i => Z i ∨ isB vS' i) h' p (scanS S).1 vT vA vS' mH mC HL' CL → GSlW (fun i => Z i ∨ isB vS' i) askE h' vS' (scanS S).1.W → (∀ b, isB vS' b → h.next ≤ b) → RIn h' v (scanS S).2 → (∀ b, isB v b → h.next ≤ b) → Q v h') : Cal tt 67 [.ptr p 0] h Q := by
 refine Cal.run rfl rfl rfl rfl ?_
 have g := P.g
 have zl := P.zl
 have hft : ∀ i, ftP p vA vS mH mC i → Z i := fun i => P.ftz
 have hAm : ∀ i, (isB vA i ∨ i = mH) → Z i := fun i e => e.elim (P.za i) fun e => by rw [e]; exact P.zh
 have I0 : ScanB Z h₀ h h p S S vT vA vS mH mC CL .nilSlice .nilSlice 0 [] [] :=
  ⟨Upd.refl _ _, ⟨HL, P.frame (U := fun _ => False) (Upd.refl _ _) (fun _ _ f => f.elim) (fun i _ h => h.elim id fun h => h.elim (fun h => (isB_nil h).elim) fun h => (isB_nil h).elim) (fun i h => .inl (hft i h)) fun i h => h.elim (zl i) fun h => h.elim (fun h => (isB_nil h).elim) fun h => (isB_nil h).elim⟩, GSlW.nil, GSl.nil, fun b h => (isB_nil h).elim, fun b h => (isB_nil h).elim, fun b h => (isB_nil h).elim, rfl, G, rfl, rfl, rfl, Nat.zero_le _, Nat.le_refl _, Nat.le_refl _⟩
 have hw := G.wl
 (repeat' first | refine go ?_ | (refine P.W.lenS ?_) | refine idxS_ fun _ _ _ => ?_ | refine sp (fun _ => ?_) fun _ => ?_ | fail)
 refine loopC (fun y : Nat × AS × CVal × CVal × List (Int × List Int) × List Int => [(0, .ptr p 0), (2, y.2.2.2.1), (3, y.2.2.1), (9, vS), (10, .int .i64 S.W.length), (11, .int .i64 y.1)]) (fun y h' => ScanB Z h₀ h h' p S y.2.1 vT vA vS mH mC CL y.2.2.1 y.2.2.2.1 y.1 y.2.2.2.2.1 y.2.2.2.2.2) (fun y => S.W.length - y.1) (0, S, .nilSlice, .nilSlice, [], []) ⟨rfl, rfl, rfl, rfl, rfl, rfl, trivial⟩ I0 ?_
 rintro ⟨j, S', vl, vo, left, out⟩ ρ h' ⟨u, ⟨HL', R'⟩, Gl, Go, lb, ob, ne, es, G', eP, eT, eW, il, ll, lo⟩
 simp only at u R' Gl Go lb ob ne es G' eP eT eW il ll lo ⊢
 have g' := R'.g
 have ol := Gl.1.one
 have oo := Go.one
 have ul := u.le
 have ej : (j : Int).toNat = j := Int.toNat_natCast j
 by_cases hjl : j < S.W.length
 rotate_left
 ·
  rw [List.drop_eq_nil_of_le (by omega)] at es
  have es' : scanS S = ({ S' with W := left }, out) := es.symm
  rw [es'] at k
  (repeat' first | refine go ?_ | refine idxS_ fun _ _ _ => ?_ | refine sp (fun _ => ?_) fun _ => ?_ | fail)
  have Rz : PV h₀ (fun i => Z i ∨ isB vl i) h' p S' vT vA vS mH mC HL' CL := R'.frame (U := fun _ => False) (Upd.refl _ _) (fun _ _ f => f.elim) (fun i _ h => h.elim .inl fun h => .inr (.inl h)) (fun i h => .inl (hft i h)) fun i h => h.elim (fun h => Nat.lt_of_lt_of_le (zl i h) ul) (Gl.1.1 i)
  have Gz : GSlW (fun i => Z i ∨ isB vl i) askE h' vl left := Gl.self.sub fun i _ h => h.imp .inl id
  have Pz := Rz.putW (fun b hb => .inr hb) (fun b hb h => by have := lb b hb; have := zl b (hft b h); omega) Gz.1.rgl
  refine k vo _ vl HL' ((u.sub fun _ _ e => .inr e).trans (Upd.set (Upd.refl _ _) (.inl (.inl rfl)))) Pz (Gz.upd (S := fun q => q = p) (Upd.set (Upd.refl _ _) (.inl rfl)) fun i _ e => by rw [e]; exact ⟨.inl P.zp, fun h => by have := lb p h; have := zl p P.zp; omega⟩) lb ?_ ob
  exact ((Go.ints_upd (S := fun q => q = p) (Upd.set (Upd.refl _ _) (.inl rfl)) fun i hi hb => by have := ob i hb; have := zl p P.zp; omega)).ints
 obtain ⟨x, ex⟩ : ∃ x, S.W[j]? = some x := ⟨_, List.getElem?_eq_getElem hjl⟩
 have hxm : x ∈ S.W := List.mem_of_getElem? ex
 have hdrop : S.W.drop j = x :: S.W.drop (j + 1) := by
  rw [List.drop_eq_getElem_cons hjl]
  rw [List.getElem?_eq_getElem hjl, Option.some.injEq] at ex
  rw [ex]
 rw [hdrop, scanL] at es
 obtain ⟨hxP, hxu⟩ := G'.w x (by rw [eW]; exact hxm)
 obtain ⟨pid, us⟩ := x
 simp only at hxP hxu
 obtain ⟨N1, hN1⟩ : ∃ N, h'.next = N := ⟨_, rfl⟩
 obtain ⟨kk, ek, k1, k2, k3⟩ := G'.pos hxP
 obtain ⟨b0, o0, w, a1, a4, hidx⟩ := R'.W.pairE (by rw [eW]; exact ex)
 have a1 := a1.sub (Z' := fun i => Z i ∨ isB vl i ∨ isB vo i) fun i _ h => .inl h
 have ow := a1.one
 have t6 := G'.t6
 have hmay : ∀ bh : Bool, bh = !left.isEmpty → ∀ (Q : CVal → Heap → Prop) h1, Exd h' h1 → (∀ h2 HL2, Upd (fun i => isB vA i ∨ i = mH) h1 h2 → PV h₀ (fun i => Z i ∨ isB vl i ∨ isB vo i) h2 p S' vT vA vS mH mC HL2 CL → Q (.bool (grantsS S' (pid, us) left.isEmpty)) h2) → Cal tt 94 [.ptr p 0, .agg [.int .i64 pid, w], .bool bh] h1 Q := fun bh hb Q h1 x1 q => by
  refine mayB_cal (R'.exd x1) G' hxP (a1.exd x1) hxu fun h2 HL2 u2 P2 => ?_
  rw [hb, Bool.not_not]
  exact q h2 HL2 u2 P2
 have x1 : Exd h' (h'.new (.cells [.int .i64 pid, w] true none)) := Exd.new (Exd.refl _)
 have hl0 : (left.length = 0 ∧ false = !left.isEmpty) ∨ (¬ left.length = 0 ∧ true = !left.isEmpty) := by
  cases left <;> simp
 rcases hl0 with ⟨hl0, hb⟩ | ⟨hl0, hb⟩
 all_goals
  (repeat' first | refine go ?_ | (refine hidx _ ?_) | (refine AtN.get a4 rfl ?_) | ((refine Gl.1.lenS ?_)) | refine idxS_ fun _ _ _ => ?_ | refine sp (fun _ => ?_) fun _ => ?_ | fail)
  refine CALLN.of (hmay _ hb _ _ (by exact exd_) fun h2 HL2 u2 R2 => ?_)
  have hNA : ∀ i, (isB vA i ∨ i = mH) → i < h.next := fun i e => zl i (hAm i e)
  have u02 : Upd (fun i => isB vA i ∨ i = mH) h' h2 := (Exd.upd (by exact exd_)).trans u2
  have gN1 : h2.get N1 = some (.cells [.int .i64 pid, w] true none) := (u2.get N1 (by exact lt_) fun e => by have := hNA N1 e; omega).trans (by exact get_)
  have nN1 : N1 < h2.next := by have := u2.le; simp only [Heap.next_set, Heap.next_new] at this; omega
  clear u2
  have g2 := R2.g
  have l02 := u02.le
  have a12 := a1.upd (u02.sub (S' := fun i => Z i ∨ isB vl i ∨ isB vo i) fun i _ e => .inl (hAm i e))
  have hvl : ∀ i, (isB vA i ∨ i = mH) → ¬ isB vl i := fun i e h => by have := hNA i e; have := lb i h; omega
  have hvo : ∀ i, (isB vA i ∨ i = mH) → ¬ isB vo i := fun i e h => by have := hNA i e; have := ob i h; omega
  obtain ⟨N2, hN2⟩ : ∃ N, h2.next = N := ⟨_, rfl⟩
  cases hg : grantsS S' (pid, us) left.isEmpty
  ·rw [hg] at es
   simp only [Bool.false_eq_true, if_false] at es
   have x23 : Exd h2 (h2.new (.cells [.int .i64 pid, w] true none)) := Exd.new (Exd.refl _)
   have src : srcC (h2.new (.cells [.int .i64 pid, w] true none)) 2 (.slice N2 0 1 1) = some (1, [.int .i64 pid, w]) := src_one (by exact get_) rfl rfl
   have hel : askE.ok (fun i => (Z i ∨ isB vo i) ∨ isB vl i) (h2.new (.cells [.int .i64 pid, w] true none)) [.int .i64 pid, w] (pid, us) := npE.ok (p := (pid, us)) ((a12.exd x23).sub fun i hi h => by
    rcases h with (h | h) | h
    ·exact .inl h
    ·exact .inr (.inr h)
    ·exact .inr (.inl h))
   obtain ⟨h4, ea, u4, n4, G4⟩ := GSlW.push1 ((Gl.1.upd u02 fun i _ e => ⟨.inl (hAm i e), hvl i e⟩).exd x23) (bytes := 32) (a := (pid, us)) (N := N2 + 1) src (by omega) hel (by rw [Heap.next_new, hN2])
   have u24 : Upd (isB vl) h2 h4 := x23.upd.trans u4
   (repeat' first | refine go ?_ | (refine SOMEN.mk ea ?_) | refine idxS_ fun _ _ _ => ?_ | refine sp (fun _ => ?_) fun _ => ?_ | fail)
   refine ⟨rfl, (j + 1, S', _, vo, left ++ [(pid, us)], out), ⟨rfl, rfl, rfl, rfl, rfl, rfl, trivial⟩, (?_ : ScanB Z h₀ h h4 p S S' vT vA vS mH mC CL (.slice (N2 + 1) 0 (left.length + 1) (left.length + 1)) vo (j + 1) (left ++ [(pid, us)]) out), by simp only; omega⟩
   have l4 := u24.le
   have vlh := Gl.1.1
   have voh := Go.1
   refine ⟨⟨by omega, fun i hi hs => (u24.get i (by omega) fun hb => by have := lb i hb; omega).trans ((u02.get i (by omega) hs).trans (u.get i hi hs))⟩, ⟨HL2, R2.frame u24 (fun i hi hb => ⟨.inr (.inl hb), fun e => by have := lb i hb; have := zl i (hft i e); omega⟩) (fun i hi hz => ?_) (fun i h => .inl (hft i h)) fun i hz => ?_⟩, G4, (Go.ints_upd u02 hvo).ints_upd u24 fun i hb => ne i hb, fun b hb => by rw [isB_slice] at hb; omega, ob, fun b hb hb2 => by rw [isB_slice] at hb; have := voh b hb2; omega, es, G', eP, eT, eW, by omega, by rw [List.length_append, List.length_singleton]; omega, by omega⟩
   ·rcases hz with h | h | h
    ·exact .inl h
    ·rw [isB_slice] at h; omega
    ·exact .inr (.inr h)
   ·rcases hz with h | h | h
    ·have := zl i h; omega
    ·rw [isB_slice] at h; omega
    ·have := voh i h; omega
  ·rw [hg, if_pos rfl] at es
   have hf := grantsS_fits hg
   obtain ⟨q1, q2⟩ := rowOk_split hxu
   have hRm := rowU_mem k2
   have lA := G'.a
   have lR := (G'.h _ hRm).1
   (repeat' first | refine go ?_ | refine idxS_ fun _ _ _ => ?_ | refine sp (fun _ => ?_) fun _ => ?_ | fail)
   refine CALLN.of (move_cal R2 ek k2 (n := S'.T.length) lA lR a12 q1 t6 (.inl rfl) (fun c => by have := G'.a0 c; have := G'.atA c; omega) (fun c => by have := G'.atH hRm c; omega) (fun c => mayU_atU q2 c) fun h3 HL3 u3 R3 => ?_)
   rw [moved_sub lA lR, ← grantM (x := (pid, us)) ek] at R3
   have gN3 := (u3.get N1 nN1 fun e => by have := hNA N1 e; omega).trans gN1
   have u03 := u02.trans u3
   have l3 := u3.le
   have nN3 : N1 < h3.next := by omega
   obtain ⟨N3, hN3⟩ : ∃ N, h3.next = N := ⟨_, rfl⟩
   have x4 : Exd h3 (h3.new (.cells [.int .i64 pid] true none)) := Exd.new (Exd.refl _)
   have src4 : srcC (h3.new (.cells [.int .i64 pid] true none)) 1 (.slice N3 0 1 1) = some (1, [.int .i64 pid]) := src_one (by exact get_) rfl rfl
   obtain ⟨h5, eb, u5, n5, G5⟩ := ((Go.ints_upd u03 hvo).exd x4).push1 (bytes := 8) (a := pid) (N := N3 + 1) src4 (by omega) rfl (by rw [Heap.next_new, hN3])
   have u35 : Upd (isB vo) h3 h5 := x4.upd.trans u5
   (repeat' first | refine go ?_ | (refine SOMEN.mk eb ?_) | refine idxS_ fun _ _ _ => ?_ | refine sp (fun _ => ?_) fun _ => ?_ | fail)
   refine ⟨rfl, (j + 1, grantS S' (pid, us), vl, _, left, out ++ [pid]), ⟨rfl, rfl, rfl, rfl, rfl, rfl, trivial⟩, (?_ : ScanB Z h₀ h h5 p S (grantS S' (pid, us)) vT vA vS mH mC CL vl (.slice (N3 + 1) 0 (out.length + 1) (out.length + 1)) (j + 1) left (out ++ [pid])), by simp only; omega⟩
   obtain ⟨p1, p2, p3, p4, p5⟩ := grantS_P S' (pid, us)
   have l5 := u35.le
   have vlh := Gl.1.1
   have voh := Go.1
   refine ⟨⟨by omega, fun i hi hs => (u35.get i (by omega) fun hb => by have := ob i hb; omega).trans ((u03.get i (by omega) hs).trans (u.get i hi hs))⟩, ⟨HL3, R3.frame u35 (fun i hi hb => ⟨.inr (.inr hb), fun e => by have := ob i hb; have := zl i (hft i e); omega⟩) (fun i hi hz => ?_) (fun i h => .inl (hft i h)) fun i hz => ?_⟩, ?_, G5, lb, fun b hb => by rw [isB_slice] at hb; omega, fun b hb h => by rw [isB_slice] at h; have := vlh b hb; omega, es, G'.grant hxP hxu hf, p1.trans eP, p2.trans eT, p3.trans eW, by omega, by omega, by rw [List.length_append, List.length_singleton]; omega⟩
   ·rcases hz with h | h | h
    ·exact .inl h
    ·exact .inr (.inl h)
    ·rw [isB_slice] at h; omega
   ·rcases hz with h | h | h
    ·have := zl i h; omega
    ·have := vlh i h; omega
    ·rw [isB_slice] at h; omega
   ·have Gl3 := Gl.upd u03 fun i _ e => ⟨.inl (hAm i e), hvl i e⟩
    refine ((Gl3.sub (Z' := fun i => (Z i ∨ isB vo i) ∨ h3.next ≤ i) fun i hi h => h.elim id fun h => by omega).upd u35 fun i hi e => ⟨.inl (.inr e), fun h => ne i h e⟩).sub fun i hi h => ?_
    rcases h with h | h
    ·exact .inl (.inl h)
    ·rw [isB_slice] at h; exact .inr (by omega)
end
theorem WSl.base {h₀ h₁ h : Heap} {v : CVal} {W : List Int} (s : WSl h₀ h v W) (l : h₁.next ≤ h₀.next) : WSl h₁ h v W := s.imp id fun ⟨b, s1, s2, r⟩ => ⟨b, s1, by omega, r⟩
theorem boot_cal {h : Heap} {p b N : Nat} {vT : CVal} {cl : Bool} {T : List Int} {Q : CVal → Heap → Prop} (g : h.get p = some (.cells [vT, .bool cl, .int .u32 0, .int .i32 1, .int .u32 0, .nilSlice, .nilMap, .nilMap, .nilSlice] true none)) (gb : h.get b = some (.cells [.ptr p 0] true none)) (nb : b ≠ p) (hp : p < h.next) (hb : b < h.next) (r : RIn h vT T) (lT : T.length ≤ 6) (hN : h.next = N)
 (k : ∀ vA h', Upd (fun i => i = p) h h' → WSl h h' vA T → (∀ b, isB vA b → N + 2 ≤ b) → N + 2 ≤ h'.next → h'.get p = some (.cells [vT, .bool cl, .int .u32 0, .int .i32 1, .int .u32 0, vA, .map N, .map (N + 1), .nilSlice] true none) → h'.get N = some (.map [] true (some ([], 0))) → h'.get (N + 1) = some (.map [] true (some ([], 0))) → Q (.tuple []) h') : Cal tt 81 [.ptr b 0] h Q := by
 refine Cal.run rfl rfl rfl rfl ?_
 have ov := r.one
 have nr : (h.room 2).next = N + 2 := Heap.nx_room hN
 (repeat' first | refine go ?_ | refine idxS_ fun _ _ _ => ?_ | refine sp (fun _ => ?_) fun _ => ?_ | fail)
 refine CALLN.of (cloneW_cal (r.exd Exd.roomR) (by omega) fun vA h1 x1 s1 => ?_)
 have x1 : Exd (h.room 2) h1 := x1
 have s1 : WSl (h.room 2) h1 vA T := s1
 have l1 := x1.le
 have ovA := s1.one
 have gp := (x1.get p (by omega)).trans (Heap.room_get g)
 have gb1 := (x1.get b (by omega)).trans (Heap.room_get gb)
 have fa : ∀ i, isB vA i → N + 2 ≤ i ∧ i < h1.next := fun i hi => by
  rcases s1 with ⟨rfl, _⟩ | ⟨b', e, h3, h4, _⟩
  ·exact (isB_nil hi).elim
  ·rw [e, isB_slice] at hi
   omega
 (repeat' first | refine go ?_ | refine idxS_ fun _ _ _ => ?_ | refine sp (fun _ => ?_) fun _ => ?_ | fail)
 refine k vA _ ⟨by simp only [Heap.next_set]; omega, fun i hi hs => ?_⟩ ((s1.base (by omega)).frame (by simp only [Heap.next_set]; omega) fun i o hi g1 _ => ?_) (fun i hi => (fa i hi).1) (by simp only [Heap.next_set]; omega) (by exact get_) (by exact get_) (by exact get_)
 ·have g1 : h1.get i = h.get i := (x1.get i (by omega)).trans (Heap.room_get rfl)
  exact get_
 ·have := fa i hi
  exact get_
theorem DefP.last {T : Tab} {f : FuncId} {args : List CVal} {h : Heap} {K : Heap → Prop} (k : CalD T f args h K) (hm : isMark (f, args) = none := by rfl) : DefP T [(f, args)] h K := by
 unfold DefP
 rw [hm]
 exact k
theorem DefP.more {T : Tab} {f : FuncId} {args : List CVal} {d : FuncId × List CVal} {ds : DS} {h : Heap} {K : Heap → Prop} (k : CalD T f args h fun h' => DEFN T (d :: ds) h' K) (hm : isMark (f, args) = none := by rfl) : DefP T ((f, args) :: d :: ds) h K := by
 unfold DefP
 rw [hm]
 obtain ⟨n, v, h', e, ⟨k⟩⟩ := k
 exact ⟨n, v, h', e, k⟩
theorem beginN_cal {Z : Nat → Prop} {h : Heap} {p : Nat} {vT : CVal} {cl : Bool} {T : List Int} {Q : CVal → Heap → Prop} (g : h.get p = some (.cells [vT, .bool cl, .int .u32 0, .int .i32 0, .int .u32 0, .nilSlice, .nilMap, .nilMap, .nilSlice] true none)) (hp : p < h.next) (zp : Z p) (r : RSl Z intE h vT T) (lT : T.length ≤ 6)
 (k : ∀ vA N h', Upd (fun i => i = p) h h' → WSl h h' vA T → h.next ≤ N → (∀ b, isB vA b → N + 2 ≤ b) → N + 2 ≤ h'.next → h'.get p = some (.cells [vT, .bool cl, .int .u32 1, .int .i32 0, .int .u32 0, vA, .map N, .map (N + 1), .nilSlice] true none) → h'.get N = some (.map [] true (some ([], 0))) → h'.get (N + 1) = some (.map [] true (some ([], 0))) → Q (.tuple []) h') : Cal tt 50 [.ptr p 0] h Q := by
 obtain ⟨b, hb⟩ : ∃ N, h.next = N := ⟨_, rfl⟩
 refine Cal.run rfl rfl rfl rfl ?_
 (repeat' first | refine go ?_ | refine idxS_ fun _ _ _ => ?_ | refine sp (fun _ => ?_) fun _ => ?_ | fail)
 refine CALLN.of (Cal.run rfl rfl rfl rfl ?_)
 (repeat' first | refine go ?_ | refine idxS_ fun _ _ _ => ?_ | refine sp (fun _ => ?_) fun _ => ?_ | fail)
 refine CALLN.of (bload_cal (i := p) (o := 2) (n := 0) (by exact get_) rfl ?_)
 rw [decide_eq_false (by omega)]
 (repeat' first | refine go ?_ | refine idxS_ fun _ _ _ => ?_ | refine sp (fun _ => ?_) fun _ => ?_ | fail)
 refine CALLN.of (Cal.run rfl rfl rfl rfl ?_)
 (repeat' first | refine go ?_ | refine idxS_ fun _ _ _ => ?_ | refine sp (fun _ => ?_) fun _ => ?_ | fail)
 refine CALLN.of (Cal.run rfl rfl rfl rfl ?_)
 (repeat' first | refine go ?_ | refine idxS_ fun _ _ _ => ?_ | refine sp (fun _ => ?_) fun _ => ?_ | fail)
 refine CALLN.of (Cal.run rfl rfl rfl rfl ?_)
 (repeat' first | refine go ?_ | (refine OPN.mark0 ?_) | (refine OPN.acas rfl rfl rfl (by exact get_) rfl ?_) | (refine OPN.uptr rfl (by exact get_) (Nat.le_of_ble_eq_true rfl) ?_) | (refine OPN.mark1 rfl ?_) | refine idxS_ fun _ _ _ => ?_ | refine sp (fun _ => ?_) fun _ => ?_ | fail)
 refine CALLN.of (bload_cal (i := p) (o := 2) (n := 0) (by exact get_) rfl ?_)
 rw [decide_eq_false (by omega)]
 (repeat' first | refine go ?_ | refine idxS_ fun _ _ _ => ?_ | refine sp (fun _ => ?_) fun _ => ?_ | fail)
 refine CALLN.of (boot_cal (p := p) (vT := vT) (cl := cl) (T := T) (b := b) (N := b + 1) (by exact get_) (by exact get_) (by omega) (by exact lt_) (by exact lt_) (r.upd ((by exact upd_ : Upd (fun i => i = p) h _).sub fun i _ e => by rw [e]; exact zp)).rin lT (by simp only [Heap.next_set, Heap.next_new]; omega) fun vA h2 u2 s2 f2 n2 g2 gm gm' => ?_)
 (repeat' first | refine go ?_ | refine idxS_ fun _ _ _ => ?_ | refine sp (fun _ => ?_) fun _ => ?_ | fail)
 refine DEFN.mk (DefP.more (CalD.run rfl rfl rfl ?_))
 (repeat' first | refine go ?_ | refine idxS_ fun _ _ _ => ?_ | refine sp (fun _ => ?_) fun _ => ?_ | fail)
 refine CALLN.of (Cal.run rfl rfl rfl rfl ?_)
 (repeat' first | refine go ?_ | (refine OPN.astore rfl rfl (by exact get_) (Nat.le_of_ble_eq_true rfl) ?_) | refine idxS_ fun _ _ _ => ?_ | refine sp (fun _ => ?_) fun _ => ?_ | fail)
 refine DEFN.mk (DefP.last (CalD.run rfl rfl rfl ?_))
 (repeat' first | refine go ?_ | refine idxS_ fun _ _ _ => ?_ | refine sp (fun _ => ?_) fun _ => ?_ | fail)
 refine CALLN.of (Cal.run rfl rfl rfl rfl ?_)
 (repeat' first | refine go ?_ | (refine OPN.mark0 ?_) | (refine OPN.uptr rfl (by exact get_) (Nat.le_of_ble_eq_true rfl) ?_) | (refine OPN.mark1 rfl ?_) | (refine OPN.aadd rfl rfl (by exact get_) rfl ?_) | (refine EQN.yes (by rfl) ?_) | refine idxS_ fun _ _ _ => ?_ | refine sp (fun _ => ?_) fun _ => ?_ | fail)
 have l2 := u2.le
 simp only [Heap.next_set, Heap.next_new] at l2
 refine k vA (b + 1) _ ⟨by simp only [Heap.next_set]; omega, fun i hi hs => ?_⟩ ((s2.base (by simp only [Heap.next_set, Heap.next_new]; omega)).frame (by simp only [Heap.next_set]; omega) fun i o hi g1 _ => ?_) (by omega) f2 (by simp only [Heap.next_set]; omega) (by exact get_) (by exact get_) (by exact get_)
 ·have g3 : h2.get i = h.get i := (u2.get i (by exact lt_) hs).trans (by exact get_)
  exact get_
 ·have := f2 i hi
  exact get_
theorem PV.pf {h₀ : Heap} {Z F : Nat → Prop} {h : Heap} {p : Nat} {S : AS} {vT vA vS : CVal} {mH mC : Nat} {HL : List ((Int × Int) × CVal)} {CL : List (Int × CVal)} (P : PV h₀ Z h p S vT vA vS mH mC HL CL) (W : GSlW Z askE h vS S.W) (hF : ∀ i, ftP p vA vS mH mC i → F i) (fz : ∀ i, F i → Z i) : PF Z h F p S := ⟨⟨_, _, _, _, _, _, _, _, P, W, hF⟩, fz⟩
section
variable {Z F : Nat → Prop} {h : Heap} {p : Nat} {S : AS} {x : Int} {Q : CVal → Heap → Prop}
theorem beginQ_cal (P : PQ Z h F p S) (t6 : S.T.length ≤ 6) (k : ∀ h' Z' F', Grow h Z F h' Z' F' → PF Z' h' F' p S → Q (.tuple []) h') : Cal tt 50 [.ptr p 0] h Q := by
 rcases P with P | P
 ·have P' := P
  obtain ⟨_, _, _, _, _, _, _, _, P1, _, _⟩ := P.e
  exact begB_cal P1 fun h' x => k h' Z F (Grow.exd x) (P'.exd x)
 ·obtain ⟨⟨v, T, e, g, r⟩, zl, fp, fz⟩ := P
  have eT : S.T = T := by rw [e]; rfl
  have hp := zl p (fz p fp)
  refine beginN_cal g hp (fz p fp) r (by rw [← eT]; exact t6) fun vA N h' u s lN fA lN' g' g1 g2 => ?_
  have vAl : ∀ i, isB vA i → N + 2 ≤ i ∧ i < h'.next := fun i hi => ⟨fA i hi, by
   rcases s with ⟨rfl, _⟩ | ⟨b', e', _, h4, _⟩
   ·exact (isB_nil hi).elim
   ·rw [e', isB_slice] at hi; omega⟩
  have zl' : ∀ i, (Z i ∨ i = N ∨ i = N + 1 ∨ isB vA i) → i < h'.next := fun i hi => by
   rcases hi with h | h | h | h
   ·have := zl i h; have := u.le; omega
   ·omega
   ·omega
   ·exact (vAl i h).2
  have r' : RSl (fun i => Z i ∨ i = N ∨ i = N + 1 ∨ isB vA i) intE h' v T := (r.sub fun i hi h => by
   rcases h with h | h | h | h
   ·exact h
   ·omega
   ·omega
   ·have := (vAl i h).1; omega).upd (u.sub fun i _ e => by rw [e]; exact .inl (fz p fp))
  refine k h' (fun i => Z i ∨ i = N ∨ i = N + 1 ∨ isB vA i) (fun i => F i ∨ i = N ∨ i = N + 1 ∨ isB vA i) ⟨u.sub fun i _ e => by rw [e]; exact fp, fun _ h => .inl h, fun _ h => .inl h, fun i hi => ?_, fun i hi => ?_⟩ ?_
  ·rcases hi with h | h | h | h
   ·exact .inl h
   ·exact .inr ⟨.inr (.inl h), by omega⟩
   ·exact .inr ⟨.inr (.inr (.inl h)), by omega⟩
   ·exact .inr ⟨.inr (.inr (.inr h)), by have := (vAl i h).1; omega⟩
  ·rcases hi with h | h | h | h
   ·exact .inl h
   ·exact .inr (by omega)
   ·exact .inr (by omega)
   ·exact .inr (by have := (vAl i h).1; omega)
  ·refine PV.pf (h₀ := h) (vT := v) (vA := vA) (vS := .nilSlice) (mH := N) (mC := N + 1) (HL := []) (CL := []) ⟨.inl (fz p fp), .inr (.inl rfl), .inr (.inr (.inl rfl)), fun b hb => .inr (.inr (.inr hb)), fun b hb => (isB_nil hb).elim, zl', ⟨by omega, by omega, by omega⟩, fun b hb => ?_, fun b hb => (isB_nil hb).elim, g', by rw [e]; exact r', by rw [e]; exact s, MapAt.new g1, MapAt.new g2, by rw [e]; exact .inl ⟨rfl, rfl⟩, fun e he => by simp at he, fun e he => by simp at he, fun pid c _ => by rw [e]; rfl, by rw [e]; exact List.Perm.refl _, fun k hk => by rw [e] at hk; exact absurd hk (Nat.not_lt_zero _)⟩ (by rw [e]; exact GSlW.nil) (fun i hi => ?_) fun i hi => hi.imp (fz i) id
   ·have := (vAl b hb).1
    exact ⟨by omega, by omega, by omega, isB_nil⟩
   ·rcases hi with h | h | h | h | h
    ·rw [h]; exact .inl fp
    ·exact .inr (.inl h)
    ·exact .inr (.inr (.inl h))
    ·exact .inr (.inr (.inr h))
    ·exact (isB_nil h).elim
theorem inQ_cal (P : PQ Z h F p S) (t6 : S.T.length ≤ 6) (k : ∀ h' Z' F', Grow h Z F h' Z' F' → PF Z' h' F' p S → Q (.bool (decide (x ∈ S.P))) h') : Cal tt 53 [.ptr p 0, .int .i64 x] h Q := by
 refine Cal.run rfl rfl rfl rfl ?_
 (repeat' first | refine go ?_ | refine idxS_ fun _ _ _ => ?_ | refine sp (fun _ => ?_) fun _ => ?_ | fail)
 refine CALLN.of (beginQ_cal P t6 fun h1 Z1 F1 gr1 P1 => ?_)
 obtain ⟨h₀, vT, vA, vS, mH, mC, HL, CL, P2, _, hF⟩ := P1.e
 have g1 := P2.g
 obtain ⟨st, gc, sc, nc⟩ := P2.C
 have hm := P2.mem x
 cases hl : lookA x CL with
 | none =>
   rw [decide_eq_false (by rw [← hm, hl]; simp)] at k
   (repeat' first | refine go ?_ | (refine lkNT KeyE.int hl ?_) | refine idxS_ fun _ _ _ => ?_ | refine sp (fun _ => ?_) fun _ => ?_ | fail)
   exact k _ _ _ gr1 P1
 | some w =>
   have hx : x ∈ S.P := hm.1 (by rw [hl]; rfl)
   rw [decide_eq_true hx] at k
   have ow : w.one = true := by
    obtain ⟨kk, hk, e⟩ := List.getElem_of_mem hx
    obtain ⟨w', e', r⟩ := P2.cv kk hk
    rw [List.getD_eq_getElem?_getD, List.getElem?_eq_getElem hk] at e'
    simp only [Option.getD_some, e, hl, Option.some.injEq] at e'
    subst e'
    exact r.one
   (repeat' first | refine go ?_ | (refine lkT KeyE.int hl ?_) | refine idxS_ fun _ _ _ => ?_ | refine sp (fun _ => ?_) fun _ => ?_ | fail)
   exact k _ _ _ gr1 P1
theorem availQ_cal (P : PQ Z h F p S) (G : GoodS S) (k : ∀ v h' Z' F', Grow h Z F h' Z' F' → PF Z' h' F' p S → RIn h' v S.A → (∀ b, isB v b → h.next ≤ b) → Q v h') : Cal tt 17 [.ptr p 0] h Q := by
 refine Cal.run rfl rfl rfl rfl ?_
 have lA := G.a
 have t6 := G.t6
 (repeat' first | refine go ?_ | refine idxS_ fun _ _ _ => ?_ | refine sp (fun _ => ?_) fun _ => ?_ | fail)
 refine CALLN.of (beginQ_cal P t6 fun h1 Z1 F1 gr1 P1 => ?_)
 obtain ⟨h₀, vT, vA, vS, mH, mC, HL, CL, P2, _, hF⟩ := P1.e
 have g1 := P2.g
 have oA := P2.A.one
 (repeat' first | refine go ?_ | refine idxS_ fun _ _ _ => ?_ | refine sp (fun _ => ?_) fun _ => ?_ | fail)
 refine CALLN.of (cloneW_cal P2.A.rin (by omega) fun v h2 x2 s2 => ?_)
 have x2 : Exd h1 h2 := x2
 have o2 := s2.one
 (repeat' first | refine go ?_ | refine idxS_ fun _ _ _ => ?_ | refine sp (fun _ => ?_) fun _ => ?_ | fail)
 refine k v h2 Z1 F1 (gr1.trans (Grow.exd x2)) (P1.exd x2) s2.rin fun b hb => ?_
 rcases s2 with ⟨rfl, _⟩ | ⟨b', e, h3, _⟩
 ·exact (isB_nil hb).elim
 ·rw [e, isB_slice] at hb
  have := gr1.u.le
  omega
end
end Go.Proofs.YtncmoaggkdlkhaaGreat.Cm
namespace Go.Proofs.YtncmoaggkdlkhaaGreat.Cm
open Go.RowKit Go.IntWalk
def CompP : List (List Int × List Int) → List Int → Prop
 | [], _ => True
 | x :: l, W => needU W x.2 x.1 = true ∧ CompP l (addU W x.1)
theorem needU_iff {W C H : List Int} : needU W C H = true ↔ ∀ j, j < W.length → atU C j - atU H j ≤ atU W j := by
 simp only [needU, allJ_iff, decide_eq_true_eq]
theorem CompP.mono : ∀ {l : List (List Int × List Int)} {W W' : List Int}, W'.length = W.length → (∀ j, j < W.length → atU W j ≤ atU W' j) → CompP l W → CompP l W'
 | [], _, _, _, _, _ => trivial
 | x :: l, W, W', hl, hw, ⟨n, c⟩ => ⟨needU_iff.2 fun j hj => by
    have := needU_iff.1 n j (by omega)
    have := hw j (by omega)
    omega, CompP.mono (by rw [addU_len, addU_len]; exact hl) (fun j hj => by
    rw [addU_len] at hj
    rw [atU_add hj, atU_add (by omega)]
    have := hw j hj
    omega) c⟩
theorem CompP.out {x : List Int × List Int} : ∀ {l : List (List Int × List Int)} {W : List Int}, (∀ j, 0 ≤ atU x.1 j) → x ∈ l → CompP l W → CompP (l.erase x) (addU W x.1)
 | [], _, _, m, _ => by simp at m
 | y :: l, W, h0, m, ⟨n, c⟩ => by
   by_cases e : y = x
   ·subst e
    rw [List.erase_cons_head]
    exact c
   ·rw [List.erase_cons_tail (by simpa using e)]
    refine ⟨needU_iff.2 fun j hj => ?_, (CompP.out h0 (by simpa [Ne.symm e] using m) c).mono (by simp only [addU_len]) fun j hj => ?_⟩
    ·rw [addU_len] at hj
     rw [atU_add hj]
     have := needU_iff.1 n j hj
     have := h0 j
     omega
    ·rw [addU_len, addU_len] at hj
     rw [atU_add (by rw [addU_len]; exact hj), atU_add hj, atU_add (by rw [addU_len]; exact hj), atU_add hj]
     omega
def prU (M K : List (List Int)) (i : Nat) : List Int × List Int := (rowU M i, rowU K i)
theorem leftU_mem {n i : Nat} {D : List Nat} : i ∈ leftU n D ↔ i < n ∧ D.contains i = false := by
 simp [leftU]
theorem leftU_cons {n i : Nat} {D : List Nat} (hi : i < n) (hD : D.contains i = false) : (leftU n D).Perm (i :: leftU n (D ++ [i])) := by
 have nd : (leftU n D).Nodup := List.nodup_range.filter _
 have e : leftU n (D ++ [i]) = (leftU n D).erase i := by
  rw [nd.erase_eq_filter i, leftU, leftU, List.filter_filter]
  congr 1
  funext j
  simp only [List.contains_eq_mem, List.mem_append, List.mem_singleton]
  by_cases h1 : j = i <;> by_cases h2 : j ∈ D <;> simp [h1, h2]
 rw [e]
 exact List.perm_cons_erase (leftU_mem.2 ⟨hi, hD⟩)
theorem orderU_iff {M K : List (List Int)} (hM : ∀ i j, 0 ≤ atU (rowU M i) j) : ∀ {n : Nat} {W : List Int} {D : List Nat}, (leftU M.length D).length = n → ((orderU M K n W D).isSome = true ↔ ∃ l, l.Perm ((leftU M.length D).map (prU M K)) ∧ CompP l W)
 | 0, W, D, h => by
   have e : leftU M.length D = [] := List.length_eq_zero_iff.1 h
   rw [e]
   exact ⟨fun _ => ⟨[], List.Perm.refl _, trivial⟩, fun _ => rfl⟩
 | n + 1, W, D, h => by
   cases hn : nextU W D M K with
   | none =>
     rw [orderU_none hn]
     refine ⟨fun e => by simp at e, fun ⟨l, hl, hc⟩ => ?_⟩
     exfalso
     cases l with
     | nil =>
       have := hl.length_eq
       rw [List.length_map, h] at this
       simp at this
     | cons x l =>
       obtain ⟨i, hi, e⟩ := List.mem_map.1 (hl.mem_iff.1 (List.mem_cons_self ..))
       obtain ⟨h1, h2⟩ := leftU_mem.1 hi
       rw [nextU, List.find?_eq_none] at hn
       refine hn i (List.mem_range.2 h1) ?_
       rw [canU, h2]
       subst e
       exact hc.1
   | some i =>
     rw [orderU_some hn]
     rw [nextU] at hn
     have hc := List.find?_some hn
     have hi := List.mem_range.1 (List.mem_of_find?_eq_some hn)
     rw [canU, Bool.and_eq_true, Bool.not_eq_true'] at hc
     have pm := leftU_cons hi hc.1
     rw [orderU_iff hM (by have := pm.length_eq; rw [List.length_cons] at this; omega)]
     constructor
     ·rintro ⟨l, hl, q⟩
      exact ⟨prU M K i :: l, (hl.cons _).trans (pm.map _).symm, hc.2, q⟩
     ·rintro ⟨l, hl, q⟩
      have pl := hl.trans (pm.map (prU M K))
      rw [List.map_cons] at pl
      have hx : prU M K i ∈ l := pl.mem_iff.2 (List.mem_cons_self ..)
      refine ⟨l.erase (prU M K i), ?_, CompP.out (hM i) hx q⟩
      have := pl.erase (prU M K i)
      rwa [List.erase_cons_head] at this
theorem leftU_nil (n : Nat) : leftU n [] = List.range n := by
 rw [leftU, List.filter_eq_self]
 exact fun _ _ => rfl
theorem map_prU {M K : List (List Int)} (h : M.length = K.length) : (leftU M.length []).map (prU M K) = M.zip K := by
 refine List.ext_getElem (by simp [leftU_nil, h]) fun i h1 h2 => ?_
 have hi : i < M.length := by simp at h2; omega
 have e : leftU M.length [] = List.range M.length := leftU_nil _
 simp only [e, List.getElem_map, List.getElem_range, List.getElem_zip, prU]
 rw [rowU_at hi, rowU_at (by omega)]
theorem safeU_iff {A : List Int} {M K : List (List Int)} (hb : bankU A M K = true) : safeU A M K = true ↔ ∃ l, l.Perm (M.zip K) ∧ CompP l A := by
 have hr : rowsU A M K = true := by rw [bankU, Bool.and_eq_true] at hb; exact hb.1
 obtain ⟨hl, h32, h6, mA, hro⟩ := rowsU_len hr
 rw [safeU, orderB, if_pos hb, orderU_iff (fun i j => ?_) (by rw [leftU_nil, List.length_range]), map_prU hl]
 by_cases hi : i < M.length
 ·exact (mayU_atU (rowOk_split (hro i hi).1).2 j).1
 ·rw [show rowU M i = [] by rw [rowU, List.getD_eq_getElem?_getD, List.getElem?_eq_none (by omega)]; rfl, atU_out (by simp)]
  omega
theorem CompP.give {x y : List Int × List Int} {u : List Int} (e2 : y.2 = x.2) (hu : ∀ j, 0 ≤ atU u j) : ∀ {l : List (List Int × List Int)} {W W' : List Int}, (∀ j, j < W.length → atU y.1 j = atU x.1 j - atU u j) → W'.length = W.length → (∀ j, j < W.length → atU W' j = atU W j + atU u j) → x ∈ l → CompP l W → ∃ l', l'.Perm (y :: l.erase x) ∧ CompP l' W'
 | [], _, _, _, _, _, m, _ => by simp at m
 | z :: l, W, W', hy, hl, hw, m, ⟨n, c⟩ => by
   by_cases e : z = x
   ·subst e
    rw [List.erase_cons_head]
    refine ⟨y :: l, List.Perm.refl _, needU_iff.2 fun j hj => ?_, c.mono (by simp only [addU_len]; exact hl) fun j hj => ?_⟩
    ·have := needU_iff.1 n j (by omega)
     have := hy j (by omega)
     have := hw j (by omega)
     rw [e2]
     omega
    ·rw [addU_len] at hj
     rw [atU_add hj, atU_add (by omega)]
     have := hy j hj
     have := hw j hj
     omega
   ·rw [List.erase_cons_tail (by simpa using e)]
    obtain ⟨l', p, q⟩ := CompP.give (W := addU W z.1) (W' := addU W' z.1) e2 hu (fun j hj => hy j (by rw [addU_len] at hj; exact hj)) (by simp only [addU_len]; exact hl) (fun j hj => by
     rw [addU_len] at hj
     rw [atU_add hj, atU_add (by omega)]
     have := hw j hj
     omega) (by simpa [Ne.symm e] using m) c
    exact ⟨z :: l', (p.cons z).trans (List.Perm.swap ..), needU_iff.2 fun j hj => by
     have := needU_iff.1 n j (by omega)
     have := hw j (by omega)
     have := hu j
     omega, q⟩
theorem sum_perm {l l' : List Int} (h : l.Perm l') : l.sum = l'.sum := by
 induction h with
 | nil => rfl
 | cons x _ ih => simp only [List.sum_cons, ih]
 | swap x y l => simp only [List.sum_cons]; omega
 | trans _ _ h1 h2 => exact h1.trans h2
theorem CompP.snoc {y : List Int × List Int} : ∀ {l : List (List Int × List Int)} {W : List Int}, CompP l W → (∀ W2 : List Int, W2.length = W.length → (∀ j, j < W.length → atU W2 j = atU W j + (l.map fun x => atU x.1 j).sum) → needU W2 y.2 y.1 = true) → CompP (l ++ [y]) W
 | [], W, _, h => ⟨h W rfl fun j _ => by simp, trivial⟩
 | x :: l, W, ⟨n, c⟩, h => ⟨n, CompP.snoc c fun W2 h1 h2 => h W2 (by rw [h1, addU_len]) fun j hj => by
    rw [h2 j (by rw [addU_len]; exact hj), atU_add hj, List.map_cons, List.sum_cons]
    omega⟩
theorem perm_eraseIdx {α : Type} {l : List α} {k : Nat} (h : k < l.length) : l.Perm (l[k] :: l.eraseIdx k) := by
 rw [List.eraseIdx_eq_take_drop_succ]
 have e : l = l.take k ++ l[k] :: l.drop (k + 1) := by rw [← List.drop_eq_getElem_cons h, List.take_append_drop]
 exact (List.Perm.of_eq e).trans List.perm_middle
theorem perm_set {α : Type} {l : List α} {k : Nat} {y : α} (h : k < l.length) : (l.set k y).Perm (y :: l.eraseIdx k) := by
 have := perm_eraseIdx (l := l.set k y) (k := k) (by rw [List.length_set]; exact h)
 rwa [List.getElem_set_self, List.eraseIdx_set_eq] at this
theorem perm_erase {α : Type} [BEq α] [LawfulBEq α] {l l' : List α} {k : Nat} (h : k < l.length) (p : l'.Perm l) : (l'.erase l[k]).Perm (l.eraseIdx k) := by
 have h1 := (p.trans (perm_eraseIdx h)).erase l[k]
 rwa [List.erase_cons_head] at h1
theorem zip_set {α β : Type} {l : List α} {m : List β} {k : Nat} {y : α} (h : k < m.length) : (l.set k y).zip m = (l.zip m).set k (y, m[k]) := by
 refine List.ext_getElem (by simp) fun i h1 h2 => ?_
 simp only [List.getElem_zip, List.getElem_set]
 by_cases e : k = i
 ·subst e; simp
 ·simp [e]
theorem zip_set2 {α β : Type} {l : List α} {m : List β} {k : Nat} {y : β} (h : k < l.length) : l.zip (m.set k y) = (l.zip m).set k (l[k], y) := by
 refine List.ext_getElem (by simp) fun i h1 h2 => ?_
 simp only [List.getElem_zip, List.getElem_set]
 by_cases e : k = i
 ·subst e; simp
 ·simp [e]
theorem zip_erase {α β : Type} : ∀ {l : List α} {m : List β} {k : Nat}, l.length = m.length → (l.eraseIdx k).zip (m.eraseIdx k) = (l.zip m).eraseIdx k
 | [], [], _, _ => by simp
 | [], _ :: _, _, h => by simp at h
 | _ :: _, [], _, h => by simp at h
 | a :: l, b :: m, 0, _ => by simp
 | a :: l, b :: m, k + 1, h => by simp [zip_erase (l := l) (m := m) (k := k) (by simpa using h)]
theorem zip_td {α β : Type} : ∀ {k : Nat} {l : List α} {m : List β}, (l.take k).zip (m.take k) = (l.zip m).take k ∧ (l.drop k).zip (m.drop k) = (l.zip m).drop k
 | 0, _, _ => by simp
 | _ + 1, [], _ => by simp
 | _ + 1, _ :: _, [] => by simp
 | k + 1, a :: l, b :: m => by simp [zip_td (k := k) (l := l) (m := m)]
theorem zip_ins {α β : Type} {l : List α} {m : List β} {k : Nat} {x : α} {y : β} (h : l.length = m.length) : (l.take k ++ x :: l.drop k).zip (m.take k ++ y :: m.drop k) = (l.zip m).take k ++ (x, y) :: (l.zip m).drop k := by
 rw [List.zip_append (by simp [h]), List.zip_cons_cons, zip_td.1, zip_td.2]
theorem safeU_give {A A' u R' : List Int} {H C : List (List Int)} {k : Nat} (hb : bankU A H C = true) (hb' : bankU A' (H.set k R') C = true) (hk : k < H.length) (hA : A'.length = A.length) (hu : ∀ j, 0 ≤ atU u j) (eA : ∀ j, j < A.length → atU A' j = atU A j + atU u j)
 (eR : ∀ j, j < A.length → atU R' j = atU (rowU H k) j - atU u j) (h : safeU A H C = true) : safeU A' (H.set k R') C = true := by
 have hl : H.length = C.length := (rowsU_len (by rw [bankU, Bool.and_eq_true] at hb; exact hb.1)).1
 obtain ⟨l, p, c⟩ := (safeU_iff hb).1 h
 have hz : k < (H.zip C).length := by rw [List.length_zip]; omega
 have hx : (H.zip C)[k] ∈ l := p.mem_iff.2 (List.getElem_mem hz)
 have ez : (H.zip C)[k] = (H[k], C[k]) := List.getElem_zip ..
 obtain ⟨l', p', c'⟩ := CompP.give (x := (H.zip C)[k]) (y := (R', C[k])) (u := u) (by rw [ez]) hu (fun j hj => by rw [ez]; show atU R' j = atU H[k] j - _; rw [eR j hj, rowU_at hk]) hA eA hx c
 refine (safeU_iff hb').2 ⟨l', p'.trans (((perm_erase hz p).cons _).trans ?_), c'⟩
 rw [zip_set (by omega)]
 exact (perm_set hz).symm
theorem safeU_leave {A : List Int} {H C : List (List Int)} {k : Nat} (hb : bankU A H C = true) (hb' : bankU (addU A (rowU H k)) (H.eraseIdx k) (C.eraseIdx k) = true) (hk : k < H.length) (h0 : ∀ j, 0 ≤ atU (rowU H k) j) (h : safeU A H C = true) : safeU (addU A (rowU H k)) (H.eraseIdx k) (C.eraseIdx k) = true := by
 have hl : H.length = C.length := (rowsU_len (by rw [bankU, Bool.and_eq_true] at hb; exact hb.1)).1
 obtain ⟨l, p, c⟩ := (safeU_iff hb).1 h
 have hz : k < (H.zip C).length := by rw [List.length_zip]; omega
 have hx : (H.zip C)[k] ∈ l := p.mem_iff.2 (List.getElem_mem hz)
 have ez : (H.zip C)[k].1 = rowU H k := by rw [List.getElem_zip, rowU_at hk]
 refine (safeU_iff hb').2 ⟨_, ?_, by have := CompP.out (by rw [ez]; exact h0) hx c; rwa [ez] at this⟩
 rw [zip_erase hl]
 exact perm_erase hz p
theorem safeU_admit {A c z : List Int} {H C : List (List Int)} {k : Nat} (hb : bankU A H C = true) (hb' : bankU A (H.take k ++ z :: H.drop k) (C.take k ++ c :: C.drop k) = true) (hz : ∀ j, 0 ≤ atU z j) (hc : ∀ j, j < A.length → atU c j ≤ atU A j + sumJ H j) (h : safeU A H C = true) : safeU A (H.take k ++ z :: H.drop k) (C.take k ++ c :: C.drop k) = true := by
 have hl : H.length = C.length := (rowsU_len (by rw [bankU, Bool.and_eq_true] at hb; exact hb.1)).1
 obtain ⟨l, p, q⟩ := (safeU_iff hb).1 h
 refine (safeU_iff hb').2 ⟨l ++ [(z, c)], ?_, q.snoc fun W2 h1 h2 => needU_iff.2 fun j hj => ?_⟩
 ·rw [zip_ins hl]
  refine List.perm_append_comm.trans ?_
  refine (p.cons _).trans ?_
  refine List.Perm.trans ?_ List.perm_middle.symm
  rw [List.take_append_drop]
 ·have e := h2 j (by omega)
  have e2 : (l.map fun x => atU x.1 j).sum = sumJ H j := by
   rw [sum_perm (p.map _), sumJ]
   congr 1
   rw [show (fun x : List Int × List Int => atU x.1 j) = (fun R => atU R j) ∘ Prod.fst from rfl, ← List.map_map, List.map_fst_zip (by omega)]
  have := hc j (by omega)
  have := hz j
  show atU c j - atU z j ≤ atU W2 j
  omega
def T3 (S : AS) : List (Int × List Int × List Int) := S.P.zip (S.H.zip S.C)
structure ClaimS (S : AS) (L : List (Int × List Int)) : Prop where
 f : ∀ t ∈ T3 S, fitsU t.2.1 t.2.2 = true
 w : ∀ x ∈ L, ∀ t ∈ T3 S, t.1 = x.1 → fitsU (addU t.2.1 x.2) t.2.2 = true
 c : ∀ R ∈ S.C, fitsU R S.T = true
theorem T3_at {S : AS} (G : GoodS S) {k : Nat} (hk : k < S.P.length) : (S.P.getD k 0, rowU S.H k, rowU S.C k) ∈ T3 S := by
 have h1 : k < S.H.length := by rw [G.hl]; exact hk
 have h2 : k < S.C.length := by rw [G.cl]; exact hk
 refine List.mem_iff_getElem.2 ⟨k, by simp only [T3, List.length_zip]; omega, ?_⟩
 simp only [T3, List.getElem_zip]
 rw [rowU_at h1, rowU_at h2, List.getD_eq_getElem?_getD, List.getElem?_eq_getElem hk]
 rfl
theorem T3_get {S : AS} {t : Int × List Int × List Int} (h : t ∈ T3 S) : ∃ k, k < S.P.length ∧ k < S.H.length ∧ k < S.C.length ∧ t = (S.P.getD k 0, rowU S.H k, rowU S.C k) := by
 obtain ⟨k, hk, e⟩ := List.mem_iff_getElem.1 h
 simp only [T3, List.length_zip] at hk
 refine ⟨k, by omega, by omega, by omega, ?_⟩
 simp only [T3, List.getElem_zip] at e
 rw [rowU_at (by omega), rowU_at (by omega), List.getD_eq_getElem?_getD, List.getElem?_eq_getElem (by omega), ← e]
 rfl
theorem rowsU_of {S : AS} (G : GoodS S) {M : List (List Int)} (hM : M.length = S.H.length) (h : ∀ R ∈ M, rowOk S.T.length R = true) : rowsU S.A S.H M = true := by
 simp only [rowsU, Bool.and_eq_true, decide_eq_true_eq, allJ_iff]
 have t6 := G.t6
 have p32 := G.p32
 refine ⟨⟨⟨⟨by rw [G.a]; exact t6, G.mayA⟩, hM.symm⟩, by rw [G.hl]; exact p32⟩, fun j hj => ?_⟩
 rw [G.a]
 exact ⟨G.rowH (rowU_mem hj), h _ (rowU_mem (by omega))⟩
theorem bank_of {S : AS} {L : List (Int × List Int)} (G : GoodS S) (C : ClaimS S L) : bankU S.A S.H S.C = true := by
 simp only [bankU, Bool.and_eq_true, allJ_iff]
 refine ⟨rowsU_of G (by rw [G.cl, G.hl]) G.c, fun j hj => ?_⟩
 rw [G.hl] at hj
 exact C.f _ (T3_at G hj)
theorem posI_inj {P : List Int} {x y : Int} {k : Nat} (h : posI P x = some k) (h' : posI P y = some k) : x = y := (posI_at h).2.symm.trans (posI_at h').2
theorem fits_le {A B : List Int} (h : fitsU A B = true) (j : Nat) (hj : j < A.length) : atU A j ≤ atU B j := (fitsU_iff.1 h).2 j hj
theorem fits_sub {A A' B : List Int} (h : fitsU A B = true) (hl : A'.length = A.length) (hA : ∀ j, j < A.length → atU A' j ≤ atU A j) : fitsU A' B = true :=
 fitsU_iff.2 ⟨by rw [hl]; exact (fitsU_iff.1 h).1, fun j hj => by have := (fitsU_iff.1 h).2 j (by omega); have := hA j (by omega); omega⟩
theorem ClaimS.row {S : AS} {L L' : List (Int × List Int)} {A' R' : List Int} {k : Nat} (G : GoodS S) (C : ClaimS S L) (hk : k < S.H.length) (hf : fitsU R' (rowU S.C k) = true) (hL : ∀ x ∈ L', x ∈ L) (hw : ∀ x ∈ L', S.P.getD k 0 = x.1 → fitsU (addU R' x.2) (rowU S.C k) = true) : ClaimS { S with A := A', H := S.H.set k R' } L' := by
 have hkc : k < S.C.length := by rw [G.cl, ← G.hl]; exact hk
 have hkp : k < S.P.length := by rw [← G.hl]; exact hk
 have e : T3 { S with A := A', H := S.H.set k R' } = (T3 S).set k (S.P[k], R', S.C[k]) := by
  show S.P.zip ((S.H.set k R').zip S.C) = _
  rw [zip_set hkc, zip_set2 hkp]
  rfl
 have ep : S.P.getD k 0 = S.P[k] := by rw [List.getD_eq_getElem?_getD, List.getElem?_eq_getElem hkp]; rfl
 rw [rowU_at hkc] at hf hw
 rw [ep] at hw
 refine ⟨fun t ht => ?_, fun x hx t ht hp => ?_, C.c⟩
 ·rw [e] at ht
  rcases List.mem_or_eq_of_mem_set ht with h | h
  ·exact C.f t h
  ·rw [h]; exact hf
 ·rw [e] at ht
  rcases List.mem_or_eq_of_mem_set ht with h | h
  ·exact C.w x (hL x hx) t h hp
  ·rw [h] at hp ⊢
   exact hw x hx hp
theorem ClaimS.grant {S : AS} {L L' : List (Int × List Int)} {x : Int × List Int} (G : GoodS S) (C : ClaimS S L) (hx : x ∈ L) (hp : x.1 ∈ S.P) (hL : ∀ y ∈ L', y ∈ L ∧ y.1 ≠ x.1) : ClaimS (grantS S x) L' := by
 obtain ⟨k, e, h1, h2, h3⟩ := G.pos hp
 rw [grantM e]
 have ek := (posI_at e).2
 refine C.row G h2 (C.w x hx _ (T3_at G h1) ek) (fun y hy => (hL y hy).1) fun y hy h => ?_
 exact absurd (h.symm.trans ek) (hL y hy).2
theorem grantsS_keep {S : AS} {L : List (Int × List Int)} {x y : Int × List Int} {f : Bool} (G : GoodS S) (C : S.cl = true → ClaimS S L) (hx : x ∈ L) (hy : y ∈ L) (ne : y.1 ≠ x.1) (px : x.1 ∈ S.P) (py : y.1 ∈ S.P) (ux : rowOk S.T.length x.2 = true) (uy : rowOk S.T.length y.2 = true) (fx : fitsU x.2 S.A = true)
 (h : grantsS (grantS S x) y f = true) : grantsS S y f = true := by
 obtain ⟨kx, ex, x1, x2, x3⟩ := G.pos px
 obtain ⟨ky, ey, y1, y2, y3⟩ := G.pos py
 have nk : kx ≠ ky := fun e => ne (by subst e; exact posI_inj ey ex)
 have Gx := G.grant px ux fx
 obtain ⟨p1, p2, p3, p4, p5⟩ := grantS_P S x
 have hfit := grantsS_fits h
 have eA : (grantS S x).A = subU S.A x.2 := by rw [grantM ex]
 have eH : (grantS S x).H = S.H.set kx (addU (rowU S.H kx) x.2) := by rw [grantM ex]
 obtain ⟨qx1, qx2⟩ := rowOk_split ux
 obtain ⟨qy1, qy2⟩ := rowOk_split uy
 have fy : fitsU y.2 S.A = true := by
  rw [eA, fitsU_iff] at hfit
  refine fitsU_iff.2 ⟨by rw [G.a]; exact qy1, fun j hj => ?_⟩
  have h1 := hfit.2 j hj
  rw [atU_sub (by rw [G.a]; omega)] at h1
  have := mayU_atU qx2 j
  omega
 have ry : rowU (grantS S x).H ky = rowU S.H ky := by
  rw [eH, rowU_set x2, if_neg (Ne.symm nk)]
 unfold grantsS at h ⊢
 rw [p1, ey] at h
 rw [ey]
 simp only [Bool.and_eq_true, Bool.or_eq_true, Bool.not_eq_true'] at h ⊢
 refine ⟨fy, ?_⟩
 rcases Bool.eq_false_or_eq_true S.cl with hcl | hcl
 rotate_left
 ·exact .inl hcl
 rcases h.2 with h3 | ⟨h3, h4⟩
 ·rw [p5, hcl] at h3; simp at h3
 refine .inr ⟨by rw [ry] at h3; exact h3, ?_⟩
 have C' := C hcl
 have B1 := bank_of (G.grant py uy fy) (C'.grant (L' := []) G hy py (by simp))
 have Cx : ClaimS (grantS S x) [y] := C'.grant G hx px fun z hz => by
  rw [List.mem_singleton] at hz
  subst hz
  exact ⟨hy, ne⟩
 have py' : y.1 ∈ (grantS S x).P := by rw [p1]; exact py
 have B2 := bank_of (Gx.grant py' (by rw [p2]; exact uy) hfit) (Cx.grant (L' := []) Gx (List.mem_singleton.2 rfl) py' (by simp))
 have e2 : grantS (grantS S x) y = { grantS S x with A := subU (subU S.A x.2) y.2, H := (S.H.set kx (addU (rowU S.H kx) x.2)).set ky (addU (rowU S.H ky) y.2) } := by
  rw [grantM (S := grantS S x) (k := ky) (by rw [p1]; exact ey), ry, eA, eH]
 rw [e2, p4] at B2
 rw [ry, eA, eH, p4] at h4
 rw [grantM ey] at B1
 have eH1 : S.H.set ky (addU (rowU S.H ky) y.2) = ((S.H.set kx (addU (rowU S.H kx) x.2)).set ky (addU (rowU S.H ky) y.2)).set kx (rowU S.H kx) := by
  rw [List.set_comm _ _ nk, List.set_set, List.set_comm _ _ (Ne.symm nk), rowU_at x2, List.set_getElem_self]
 have lx : x.2.length = S.A.length := by rw [G.a]; exact qx1
 simp only at B1 B2 ⊢
 rw [eH1] at B1 ⊢
 refine safeU_give (u := x.2) B2 B1 (by rw [List.length_set, List.length_set]; exact x2) (by simp only [subU_len]) (fun j => (mayU_atU qx2 j).1) (fun j hj => ?_) (fun j hj => ?_) h4
 ·simp only [subU_len] at hj
  rw [atU_sub hj, atU_sub (by rw [subU_len]; exact hj), atU_sub hj]
  omega
 ·simp only [subU_len] at hj
  rw [rowU_set (by rw [List.length_set]; exact y2), if_neg nk, rowU_set x2, if_pos rfl]
  rw [atU_add (by rw [(G.h _ (rowU_mem x2)).1, ← G.a]; exact hj)]
  show atU (rowU S.H kx) j = _
  omega
theorem GoodS.scanS {S : AS} (G : GoodS S) : GoodS (scanS S).1 := GoodS.scan G (by simpa using G.w) (by simpa using G.wd)
theorem takeW {P : List Int} (ps : P.Pairwise (· < ·)) (x : Int) : ((P.takeWhile fun p => decide (p < x)).length ≤ P.length) ∧ (∀ p, p < (P.takeWhile fun p => decide (p < x)).length → P.getD p 0 < x) ∧ ∀ p, (P.takeWhile fun p => decide (p < x)).length ≤ p → p < P.length → x ≤ P.getD p 0 := by
 induction P with
 | nil => exact ⟨Nat.le_refl _, fun p hp => absurd hp (Nat.not_lt_zero _), fun p _ hp => absurd hp (Nat.not_lt_zero _)⟩
 | cons a P ih =>
   obtain ⟨n1, n2⟩ := List.pairwise_cons.1 ps
   by_cases h : a < x
   ·rw [List.takeWhile_cons, if_pos (by simpa using h), List.length_cons]
    obtain ⟨i1, i2, i3⟩ := ih n2
    refine ⟨by simpa using i1, fun p hp => ?_, fun p hp hl => ?_⟩
    ·cases p with
     | zero => simpa using h
     | succ p => simpa using i2 p (by omega)
    ·cases p with
     | zero => omega
     | succ p => simpa using i3 p (by omega) (by simpa using hl)
   ·rw [List.takeWhile_cons, if_neg (by simpa using h)]
    refine ⟨Nat.zero_le _, fun p hp => absurd hp (Nat.not_lt_zero _), fun p _ hl => ?_⟩
    cases p with
    | zero => simpa using Int.not_lt.1 h
    | succ p =>
      have hp : p < P.length := by simpa using hl
      have := n1 P[p] (List.getElem_mem hp)
      rw [List.getD_cons_succ, List.getD_eq_getElem?_getD, List.getElem?_eq_getElem hp]
      simp only [Option.getD_some]
      omega
theorem admitS_cases (S : AS) (pid : Int) (c : List Int) : (admitS S pid c).1 = S ∨ ((admitS S pid c) = (inS S pid c (S.P.takeWhile fun p => decide (p < pid)).length, 0) ∧ 1 ≤ pid ∧ rowOk S.T.length c = true ∧ posI S.P pid = none ∧ S.P.length < 32 ∧ ¬ (S.cl = true ∧ fitsU c S.T = false)) := by
 by_cases h1 : pid < 1 ∨ rowOk S.T.length c = false
 ·exact .inl (by rw [admitS, if_pos h1])
 by_cases h2 : (posI S.P pid).isSome = true
 ·exact .inl (by rw [admitS, if_neg h1, if_pos h2])
 by_cases h3 : 32 ≤ S.P.length
 ·exact .inl (by rw [admitS, if_neg h1, if_neg h2, if_pos h3])
 by_cases h4 : S.cl = true ∧ fitsU c S.T = false
 ·exact .inl (by rw [admitS, if_neg h1, if_neg h2, if_neg h3, if_pos h4])
 have h5 : rowOk S.T.length c = true := by
  cases h : rowOk S.T.length c
  ·exact absurd (.inr h) h1
  ·rfl
 have h6 : posI S.P pid = none := by
  cases h : posI S.P pid
  ·rfl
  ·rw [h] at h2; simp at h2
 exact .inr ⟨admitS_in (by omega) h5 h6 (by omega) h4 rfl, by omega, h5, h6, by omega, h4⟩
theorem GoodS.admit {S : AS} (G : GoodS S) {pid : Int} {c : List Int} (hp : pid ≤ 9223372036854775807) : GoodS (admitS S pid c).1 := by
 rcases admitS_cases S pid c with h | ⟨h, h1, h2, h3, h4, h5⟩
 ·rw [h]; exact G
 ·rw [h]
  obtain ⟨i1, i2, i3⟩ := takeW G.ps pid
  refine G.into ⟨h1, hp⟩ h2 h4 i1 i2 fun p hp hl => ?_
  have := i3 p hp hl
  have : S.P.getD p 0 ≠ pid := fun e => by
   refine posI_mem.1 h3 ?_
   rw [← e, List.getD_eq_getElem?_getD, List.getElem?_eq_getElem hl]
   exact List.getElem_mem hl
  omega
theorem posI_notin {P : List Int} {x : Int} {k : Nat} (h : posI P x = some k) : x ∈ P := Classical.byContradiction fun hn => by rw [posI_mem.2 hn] at h; simp at h
theorem askS_cases (S : AS) (pid : Int) (u : List Int) : ((askS S pid u).1 = S ∧ (askS S pid u).2.1 = []) ∨ ∃ k, posI S.P pid = some k ∧ rowOk S.T.length u = true ∧ posW S.W pid = none ∧ ¬ (S.cl = true ∧ fitsU (addU (rowU S.H k) u) (rowU S.C k) = false) ∧ askS S pid u = ((Cm.scanS { S with W := S.W ++ [(pid, u)] }).1, (Cm.scanS { S with W := S.W ++ [(pid, u)] }).2, 0) := by
 cases hk : posI S.P pid with
 | none => exact .inl ⟨by rw [askS, hk], by rw [askS, hk]⟩
 | some k =>
   by_cases h1 : rowOk S.T.length u = false
   ·exact .inl ⟨by simp only [askS, hk, if_pos h1], by simp only [askS, hk, if_pos h1]⟩
   by_cases h2 : (posW S.W pid).isSome = true
   ·exact .inl ⟨by simp only [askS, hk, if_neg h1, if_pos h2], by simp only [askS, hk, if_neg h1, if_pos h2]⟩
   by_cases h3 : S.cl = true ∧ fitsU (addU (rowU S.H k) u) (rowU S.C k) = false
   ·exact .inl ⟨by simp only [askS, hk, if_neg h1, if_neg h2, if_pos h3], by simp only [askS, hk, if_neg h1, if_neg h2, if_pos h3]⟩
   refine .inr ⟨k, rfl, by simpa using h1, by cases h : posW S.W pid; rfl; rw [h] at h2; simp at h2, h3, by simp only [askS, hk, if_neg h1, if_neg h2, if_neg h3]⟩
theorem giveS_cases (S : AS) (pid : Int) (u : List Int) : ((giveS S pid u).1 = S ∧ (giveS S pid u).2.1 = []) ∨ ∃ k, posI S.P pid = some k ∧ rowOk S.T.length u = true ∧ fitsU u (rowU S.H k) = true ∧ giveS S pid u = ((Cm.scanS { S with A := addU S.A u, H := S.H.set k (subU (rowU S.H k) u) }).1, (Cm.scanS { S with A := addU S.A u, H := S.H.set k (subU (rowU S.H k) u) }).2, 0) := by
 cases hk : posI S.P pid with
 | none => exact .inl ⟨by rw [giveS, hk], by rw [giveS, hk]⟩
 | some k =>
   by_cases h1 : rowOk S.T.length u = false
   ·exact .inl ⟨by simp only [giveS, hk, if_pos h1], by simp only [giveS, hk, if_pos h1]⟩
   by_cases h2 : fitsU u (rowU S.H k) = false
   ·exact .inl ⟨by simp only [giveS, hk, if_neg h1, if_pos h2], by simp only [giveS, hk, if_neg h1, if_pos h2]⟩
   exact .inr ⟨k, rfl, by simpa using h1, by simpa using h2, by simp only [giveS, hk, if_neg h1, if_neg h2]⟩
theorem leaveS_cases (S : AS) (pid : Int) : (posI S.P pid = none ∧ leaveS S pid = (S, [], false)) ∨ ∃ k, posI S.P pid = some k ∧ leaveS S pid = ((Cm.scanS (goneS S pid k)).1, (Cm.scanS (goneS S pid k)).2, true) := by
 cases hk : posI S.P pid with
 | none => exact .inl ⟨rfl, by rw [leaveS, hk]⟩
 | some k => exact .inr ⟨k, rfl, leaveS_some hk⟩
theorem GoodS.asks {S : AS} (G : GoodS S) {pid : Int} {u : List Int} : GoodS (askS S pid u).1 := by
 rcases askS_cases S pid u with ⟨h, _⟩ | ⟨k, hk, hu, hw, _, h⟩
 ·rw [h]; exact G
 ·rw [h]; exact (G.ask (posI_notin hk) hu hw).scanS
theorem GoodS.gives {S : AS} (G : GoodS S) {pid : Int} {u : List Int} : GoodS (giveS S pid u).1 := by
 rcases giveS_cases S pid u with ⟨h, _⟩ | ⟨k, hk, hu, hf, h⟩
 ·rw [h]; exact G
 ·rw [h]; exact (G.give (by rw [G.hl]; exact (posI_at hk).1) hu hf).scanS
theorem GoodS.leaves {S : AS} (G : GoodS S) {pid : Int} : GoodS (leaveS S pid).1 := by
 rcases leaveS_cases S pid with ⟨_, h⟩ | ⟨k, hk, h⟩
 ·rw [h]; exact G
 ·rw [h]; exact (G.gone hk).scanS
def NoS (S : AS) (L : List (Int × List Int)) : Prop := ∀ k x, L[k]? = some x → grantsS S x (decide (k = 0)) = false
def SafeS (S : AS) (L : List (Int × List Int)) : Prop := S.cl = true → ClaimS S L ∧ safeS S = true
theorem safe_of_grants {S : AS} {x : Int × List Int} {f : Bool} (hcl : S.cl = true) (h : grantsS S x f = true) : safeS (grantS S x) = true := by
 unfold grantsS at h
 rw [safeS]
 unfold grantS
 split at h
 ·simp at h
 ·next k hk =>
  rw [hcl] at h
  simp only [Bool.and_eq_true, Bool.not_true, Bool.false_or] at h
  exact h.2.2
theorem scanL_inv : ∀ {xs : List (Int × List Int)} {S : AS} {left : List (Int × List Int)} {out : List Int}, GoodS S → (∀ x ∈ left ++ xs, x.1 ∈ S.P ∧ rowOk S.T.length x.2 = true) → ((left ++ xs).map (·.1)).Nodup → SafeS S (left ++ xs) → NoS S left →
 SafeS (scanL xs S left out).1 (scanL xs S left out).1.W ∧ NoS (scanL xs S left out).1 (scanL xs S left out).1.W
 | [], S, left, out, G, h1, h2, h3, h4 => by
   rw [List.append_nil] at h3
   exact ⟨fun hcl => ⟨⟨(h3 hcl).1.f, (h3 hcl).1.w, (h3 hcl).1.c⟩, (h3 hcl).2⟩, h4⟩
 | x :: xs, S, left, out, G, h1, h2, h3, h4 => by
   rw [scanL]
   have hxm : x ∈ left ++ x :: xs := List.mem_append_right _ (List.mem_cons_self ..)
   have hx := h1 x hxm
   have e := grantS_P S x
   cases hg : grantsS S x left.isEmpty
   ·rw [if_neg (by decide)]
    refine scanL_inv G (fun y hy => h1 y (by simpa using hy)) (by simpa using h2) (by simpa using h3) fun k y hy => ?_
    rcases Nat.lt_trichotomy k left.length with hk | hk | hk
    ·rw [List.getElem?_append_left hk] at hy
     exact h4 k y hy
    ·rw [hk, List.getElem?_append_right (Nat.le_refl _), Nat.sub_self] at hy
     simp only [List.getElem?_cons_zero, Option.some.injEq] at hy
     subst hy
     rw [← hg]
     congr 1
     rw [hk]
     cases left <;> simp
    ·rw [List.getElem?_eq_none (by rw [List.length_append, List.length_singleton]; omega)] at hy
     simp at hy
   ·rw [if_pos rfl]
    have hf := grantsS_fits hg
    have hne : ∀ y ∈ left ++ xs, y ∈ left ++ x :: xs ∧ y.1 ≠ x.1 := fun y hy => by
     refine ⟨?_, fun e => ?_⟩
     ·rcases List.mem_append.1 hy with h | h
      ·exact List.mem_append_left _ h
      ·exact List.mem_append_right _ (List.mem_cons_of_mem _ h)
     ·have h5 : (x :: (left ++ xs)).Perm (left ++ x :: xs) := List.perm_middle.symm
      have h6 := (h5.map (·.1)).nodup_iff.2 h2
      rw [List.map_cons, List.nodup_cons] at h6
      exact h6.1 (List.mem_map.2 ⟨y, hy, e⟩)
    refine scanL_inv (G.grant hx.1 hx.2 hf) (fun y hy => by rw [e.1, e.2.1]; exact h1 y (hne y hy).1) (h2.sublist ((List.Sublist.append_left (List.sublist_cons_self ..) _).map _)) (fun hcl => ?_) fun k y hy => ?_
    ·rw [e.2.2.2.2] at hcl
     exact ⟨(h3 hcl).1.grant G hxm hx.1 hne, safe_of_grants hcl hg⟩
    ·have hy' := List.mem_append_left xs (List.mem_of_getElem? hy)
     obtain ⟨y1, y2⟩ := hne y hy'
     have hyp := h1 y y1
     cases hq : grantsS (grantS S x) y (decide (k = 0))
     ·rfl
     ·exfalso
      have := grantsS_keep G (fun h => (h3 h).1) hxm y1 y2 hx.1 hyp.1 hx.2 hyp.2 hf hq
      rw [h4 k y hy] at this
      simp at this
theorem scanS_inv {S : AS} (G : GoodS S) (h : SafeS S S.W) : SafeS (scanS S).1 (scanS S).1.W ∧ NoS (scanS S).1 (scanS S).1.W :=
 scanL_inv G (by simpa using G.w) (by simpa using G.wd) (by simpa using h) fun k x hx => by simp at hx
structure LawS (S : AS) : Prop where
 G : GoodS S
 c : SafeS S S.W
 n : NoS S S.W
theorem LawS.of_scan {S : AS} (G : GoodS S) (h : SafeS S S.W) : LawS (scanS S).1 := ⟨G.scanS, (scanS_inv G h).1, (scanS_inv G h).2⟩
theorem LawS.new {T : List Int} {cl : Bool} (h : totU T = true) : LawS (newS T cl) := by
 have G := GoodS.new (cl := cl) h
 have C : ClaimS (newS T cl) (newS T cl).W := ⟨fun t ht => by simp [T3, newS] at ht, fun x hx => by simp [newS] at hx, fun R hR => by simp [newS] at hR⟩
 refine ⟨G, fun _ => ⟨C, ?_⟩, fun k x hx => by simp [newS] at hx⟩
 rw [safeS, safeU_iff (bank_of G C)]
 exact ⟨[], by simp [newS], trivial⟩
theorem LawS.ask {S : AS} (I : LawS S) {pid : Int} {u : List Int} : LawS (askS S pid u).1 := by
 rcases askS_cases S pid u with ⟨h, _⟩ | ⟨k, hk, hu, hw, hc, h⟩
 ·rw [h]; exact I
 rw [h]
 refine LawS.of_scan (I.G.ask (posI_notin hk) hu hw) fun hcl => ?_
 have hcl : S.cl = true := hcl
 obtain ⟨C, s⟩ := I.c hcl
 refine ⟨⟨C.f, fun x hx t ht e => ?_, C.c⟩, s⟩
 rcases List.mem_append.1 hx with hx | hx
 ·exact C.w x hx t ht e
 ·rw [List.mem_singleton] at hx
  subst hx
  obtain ⟨j, h1, h2, h3, rfl⟩ := T3_get ht
  have hj : j = k := by
   obtain ⟨k1, k2⟩ := posI_at hk
   have e : S.P.getD j 0 = pid := e
   refine (List.getElem?_inj (l := S.P) h1 (I.G.ps.imp fun h => by omega)).1 ?_
   rw [List.getD_eq_getElem?_getD, List.getElem?_eq_getElem h1] at e
   rw [List.getD_eq_getElem?_getD, List.getElem?_eq_getElem k1] at k2
   rw [List.getElem?_eq_getElem h1, List.getElem?_eq_getElem k1]
   simp only [Option.getD_some] at e k2
   rw [e, k2]
  subst hj
  show fitsU (addU (rowU S.H j) u) (rowU S.C j) = true
  cases hf : fitsU (addU (rowU S.H j) u) (rowU S.C j)
  ·exact absurd ⟨hcl, hf⟩ hc
  ·rfl
theorem LawS.give {S : AS} (I : LawS S) {pid : Int} {u : List Int} : LawS (giveS S pid u).1 := by
 rcases giveS_cases S pid u with ⟨h, _⟩ | ⟨k, hk, hu, hf, h⟩
 ·rw [h]; exact I
 rw [h]
 have k1 := (posI_at hk).1
 have G := I.G
 have k2 : k < S.H.length := by rw [G.hl]; exact k1
 obtain ⟨q1, q2⟩ := rowOk_split hu
 have lR := (G.h _ (rowU_mem k2)).1
 have G' := G.give k2 hu hf
 refine LawS.of_scan G' fun hcl => ?_
 obtain ⟨C, s⟩ := I.c hcl
 have le : ∀ j, j < (rowU S.H k).length → atU (subU (rowU S.H k) u) j ≤ atU (rowU S.H k) j := fun j hj => by
  rw [atU_sub hj]
  have := mayU_atU q2 j
  omega
 have C' : ClaimS { S with A := addU S.A u, H := S.H.set k (subU (rowU S.H k) u) } S.W := C.row G k2 (fits_sub (C.f _ (T3_at G k1)) (subU_len _ _) le) (fun _ h => h) fun x hx e => by
  refine fits_sub (C.w x hx _ (T3_at G k1) e) (by rw [addU_len, addU_len, subU_len]) fun j hj => ?_
  have hj : j < (rowU S.H k).length := by rw [addU_len] at hj; exact hj
  rw [atU_add (by rw [subU_len]; exact hj), atU_add hj]
  have := le j hj
  omega
 refine ⟨C', safeU_give (u := u) (bank_of G C) (bank_of G' C') k2 (addU_len _ _) (fun j => (mayU_atU q2 j).1) (fun j hj => atU_add hj) (fun j hj => atU_sub (by rw [lR, ← G.a]; exact hj)) s⟩
theorem LawS.leave {S : AS} (I : LawS S) {pid : Int} : LawS (leaveS S pid).1 := by
 rcases leaveS_cases S pid with ⟨_, h⟩ | ⟨k, hk, h⟩
 ·rw [h]; exact I
 rw [h]
 have k1 := (posI_at hk).1
 have G := I.G
 have k2 : k < S.H.length := by rw [G.hl]; exact k1
 have G' := G.gone hk
 refine LawS.of_scan G' fun hcl => ?_
 obtain ⟨C, s⟩ := I.c hcl
 have e3 : T3 (goneS S pid k) = (T3 S).eraseIdx k := by
  show (S.P.eraseIdx k).zip ((S.H.eraseIdx k).zip (S.C.eraseIdx k)) = _
  rw [zip_erase (by rw [G.hl, G.cl]), zip_erase (by rw [List.length_zip, G.hl, G.cl, Nat.min_self])]
  rfl
 have ms : ∀ t ∈ T3 (goneS S pid k), t ∈ T3 S := fun t ht => by rw [e3] at ht; exact (List.eraseIdx_sublist ..).subset ht
 have C' : ClaimS (goneS S pid k) (goneS S pid k).W := ⟨fun t ht => C.f t (ms t ht), fun x hx t ht e => C.w x (cutW_sub.subset hx) t (ms t ht) e, fun R hR => C.c R ((List.eraseIdx_sublist ..).subset hR)⟩
 exact ⟨C', safeU_leave (bank_of G C) (bank_of G' C') k2 (G.h _ (rowU_mem k2)).2 s⟩
theorem LawS.admit {S : AS} (I : LawS S) {pid : Int} {c : List Int} (hp : pid ≤ 9223372036854775807) (hW : S.W = []) : LawS (admitS S pid c).1 ∧ (admitS S pid c).1.W = [] := by
 have G' := I.G.admit (pid := pid) (c := c) hp
 rcases admitS_cases S pid c with h | ⟨h, h1, h2, h3, h4, h5⟩
 ·rw [h]; exact ⟨I, hW⟩
 rw [h] at G' ⊢
 have G := I.G
 have hW' : (inS S pid c (S.P.takeWhile fun p => decide (p < pid)).length).W = [] := hW
 simp only at G' ⊢
 refine ⟨⟨G', fun hcl => ?_, fun k x hx => by rw [hW'] at hx; simp at hx⟩, hW'⟩
 have hcl : S.cl = true := hcl
 obtain ⟨C, s⟩ := I.c hcl
 have hfc : fitsU c S.T = true := by
  cases hf : fitsU c S.T
  ·exact absurd ⟨hcl, hf⟩ h5
  ·rfl
 obtain ⟨q1, q2⟩ := rowOk_split h2
 have z0 : ∀ j, atU (ofJ S.T.length fun _ => 0) j = 0 := fun j => by
  by_cases hj : j < S.T.length
  ·rw [atU_ofJ hj]
  ·rw [atU_out (by rw [ofJ_length]; exact hj)]
 have C' : ClaimS (inS S pid c (S.P.takeWhile fun p => decide (p < pid)).length) (inS S pid c (S.P.takeWhile fun p => decide (p < pid)).length).W := by
  refine ⟨fun t ht => ?_, fun x hx => by rw [hW'] at hx; simp at hx, fun R hR => ?_⟩
  ·have e3 : T3 (inS S pid c (S.P.takeWhile fun p => decide (p < pid)).length) = (T3 S).take (S.P.takeWhile fun p => decide (p < pid)).length ++ (pid, ofJ S.T.length (fun _ => 0), c) :: (T3 S).drop (S.P.takeWhile fun p => decide (p < pid)).length := by
    show (S.P.take _ ++ _ :: S.P.drop _).zip ((S.H.take _ ++ _ :: S.H.drop _).zip (S.C.take _ ++ _ :: S.C.drop _)) = _
    rw [zip_ins (by rw [G.hl, G.cl]), zip_ins (by rw [List.length_zip, G.hl, G.cl, Nat.min_self])]
    rfl
   rw [e3] at ht
   rcases mem_ins.1 ht with h | h
   ·rw [h]
    refine fitsU_iff.2 ⟨by rw [ofJ_length]; exact q1.symm, fun j hj => ?_⟩
    rw [z0]
    exact (mayU_atU q2 j).1
   ·exact C.f t h
  ·rcases mem_ins.1 hR with h | h
   ·rw [h]; exact hfc
   ·exact C.c R h
 refine ⟨C', safeU_admit (bank_of G C) (bank_of G' C') (fun j => by rw [z0]; exact Int.le_refl _) (fun j hj => ?_) s⟩
 have hj : j < S.A.length := hj
 show atU c j ≤ atU S.A j + sumJ S.H j
 rw [G.sum j (by rw [← G.a]; exact hj)]
 exact fits_le hfc j (by rw [q1, ← G.a]; exact hj)
end Go.Proofs.YtncmoaggkdlkhaaGreat.Cm
