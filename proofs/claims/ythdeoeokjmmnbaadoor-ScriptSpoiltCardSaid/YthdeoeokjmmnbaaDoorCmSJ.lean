/-
  Jobs as texts: a line as the reference reads it.
-/
import Derived.Test.YthdeoeokjmmnbaaDoorCmSI
import Derived.Test.YthdeoeokjmmnbaaDoorCmZ
namespace Go.Proofs.YthdeoeokjmmnbaaDoor.Cm
open Go.RowKit Go.IntWalk
attribute [local irreducible] Heap.set Heap.new Heap.kill Heap.get Heap.room Cal WP

def numsR : List (List UInt8) → Option (List Int)
  | [] => some []
  | x :: r => match refNum x with
    | none => none
    | some n => (numsR r).map (n :: ·)
def rowB (s w : List UInt8) : Option (List Int) := match splitB s with
  | x :: r => if x = w then numsR r else none
  | [] => none
theorem splitB_cons (s : List UInt8) : ∃ w r, splitB s = w :: r := by
  cases h : splitB s with
  | nil => exact (splitB_ne s h).elim
  | cons w r => exact ⟨w, r, rfl⟩
theorem splitB_len (s : List UInt8) : (splitB s).length ≤ s.length + 1 := by
  induction s with
  | nil => simp [splitB]
  | cons c s ih =>
    unfold splitB
    split
    · simp; omega
    · cases hq : splitB s with
      | nil => exact (splitB_ne s hq).elim
      | cons x xs => rw [hq] at ih; simp [consW] at ih ⊢; omega

theorem numsR_succ {r : List (List UInt8)} {i : Nat} (hi : i < r.length) {A : List Int} (h : numsR (r.take i) = some A) : numsR (r.take (i + 1)) = (refNum r[i]).map fun n => A ++ [n] := by
  induction r generalizing i A with
  | nil => simp at hi
  | cons x r ih =>
    cases i with
    | zero =>
      simp only [List.take_zero, numsR, Option.some.injEq] at h
      subst h
      simp only [Nat.zero_add, List.take_succ_cons, List.take_zero, numsR, List.getElem_cons_zero]
      cases refNum x <;> rfl
    | succ i =>
      simp only [List.take_succ_cons, numsR, List.getElem_cons_succ] at h ⊢
      cases hq : refNum x with
      | none => rw [hq] at h; simp at h
      | some n =>
        rw [hq] at h
        simp only at h ⊢
        cases hA : numsR (r.take i) with
        | none => rw [hA] at h; simp at h
        | some A' =>
          rw [hA] at h
          simp only [Option.map_some, Option.some.injEq] at h
          subst h
          rw [ih (by simpa using hi) hA]
          have hi' : i < r.length := by simpa using hi
          cases refNum (r[i]'hi') <;> rfl
theorem numsR_none {r : List (List UInt8)} {i : Nat} (hi : i < r.length) (h : numsR (r.take (i + 1)) = none) : numsR r = none := by
  induction r generalizing i with
  | nil => simp at hi
  | cons x r ih =>
    simp only [List.take_succ_cons, numsR] at h ⊢
    cases hq : refNum x with
    | none => rfl
    | some n =>
      rw [hq] at h
      simp only [Option.map_eq_none_iff] at h ⊢
      cases i with
      | zero => simp [numsR] at h
      | succ i => exact ih (by simpa using hi) h
theorem numsR_len : ∀ {r : List (List UInt8)} {A : List Int}, numsR r = some A → A.length = r.length
  | [], A, h => by simp [numsR] at h; subst h; rfl
  | x :: r, A, h => by
    simp only [numsR] at h
    cases hq : refNum x with
    | none => rw [hq] at h; simp at h
    | some n =>
      rw [hq] at h
      cases hA : numsR r with
      | none => rw [hA] at h; simp at h
      | some A' => rw [hA] at h; simp at h; subst h; simp [numsR_len hA]
theorem refNum_64 {x : List UInt8} {n : Int} (h : refNum x = some n) : -9223372036854775808 ≤ n ∧ n ≤ 9223372036854775807 := by
  rw [refNum_eq] at h
  split at h
  · simp at h; subst h; exact parseV_range x
  · simp at h

theorem numN_cal {x : List UInt8} {h : Heap} {Q : CVal → Heap → Prop} (hs : x.length ≤ 100000) (e : refNum x = none) (k : Q (.tuple [.int .i64 0, .bool false]) h) : Cal tt 24 [.str x] h Q := num_cal hs (by rw [e]; exact k)
theorem numS_cal {x : List UInt8} {n : Int} {h : Heap} {Q : CVal → Heap → Prop} (hs : x.length ≤ 100000) (e : refNum x = some n) (k : Q (.tuple [.int .i64 n, .bool true]) h) : Cal tt 24 [.str x] h Q := num_cal hs (by rw [e]; exact k)

set_option maxHeartbeats 4000000 in
theorem row_cal {s w : List UInt8} {h : Heap} {Q : CVal → Heap → Prop} (hs : s.length ≤ 99990)
    (k0 : rowB s w = none → ∀ h', Exd h h' → Q (.tuple [.nilSlice, .bool false]) h')
    (k1 : ∀ R, rowB s w = some R → ∀ i h', Exd h h' → Own h h' (.slice i 0 R.length R.length) 1 R.length (R.map (CVal.int .i64)) → Q (.tuple [.slice i 0 R.length R.length, .bool true]) h') : Cal tt 18 [.str s, .str w] h Q := by
  have ls := splitB_len s
  obtain ⟨w0, r, e5⟩ := splitB_cons s
  have er : rowB s w = if w0 = w then numsR r else none := by rw [rowB, e5]
  have mf : ∀ x ∈ r, x.length ≤ 100000 := fun x hx => by have := splitB_mem (s := s) (w := x) (by rw [e5]; exact List.mem_cons_of_mem _ hx); omega
  refine Cal.run rfl rfl rfl rfl ?_
  (repeat' ((conv => whnf); (first | (refine ZA (by omega) ?_) | (refine ZB (by omega) ?_) | (refine ZC (fun _ => ?_) fun _ => ?_) | (refine ZD (by omega) ?_) | (refine ZE (by omega) ?_) | (refine ZF (fun _ => ?_) fun _ => ?_) | (refine ZG (by first | rfl | assumption) ?_) | (refine ZH (by first | decide | assumption) ?_) | (refine ZI (fun _ => ?_) fun _ => ?_) | (refine ZJ (by omega) ?_) | (refine ZK (by first | (apply u8_in; omega) | (apply i32_in; omega) | (apply u32_in; omega)) ?_) | (refine ZL (by omega) ?_) | (refine ZM (by omega) ?_) | (refine ZN (by omega) ?_) | ((first | (show GETN _ _ _; apply ZO) | (show GETM _ _ _; apply ZP) | (show SETN _ _ _ _ _ _; apply ZQ) | (show LOOKN _ _ _ _ _ _; apply ZR (QV.load rfl ?g ?hl)) | (show LOOKN _ _ _ _ _ _; apply ZR (QV.loadA rfl ?g ?hl ?ho))); (case g => ((repeat first | refine Z5 ?_ | refine Z6 (by omega) ?_ | refine Z7 (by ((repeat first | apply Z1 | apply Z2 | apply Z3 | apply Z4); first | assumption | rfl)) (by omega) ?_ | refine Z8 (by assumption) (by omega) ?_); first | assumption | exact Z9 (by omega) | exact Z0 (by ((repeat first | apply Z1 | apply Z2 | apply Z3 | apply Z4); first | assumption | rfl)) (by omega))); (try (case hl => rfl)); (try (case ho => first | rfl | (first | decide | (simp; done) | (simp; omega) | exact Nat.le_of_ble_eq_true rfl)))) | (show NEWN _ _; refine ZS (by ((repeat first | apply Z1 | apply Z2 | apply Z3 | apply Z4); first | assumption | rfl)) ?_) | (show DOESN _ _; refine ZT (by first | rfl | omega | (simp; done) | (simp; omega)) ?_) | (refine ZU (by assumption) ?_) | (refine ZV (by assumption) ?_) | (refine ZW (fun _ => ?_) fun _ => ?_) | (refine ZX (by rfl) ?_) | (refine scopeC ?_) | (refine ZZ rfl ?_) | (refine Zz rfl ?_) | (show NUMN _ _; refine ZY (by ((repeat first | apply Z1 | apply Z2 | apply Z3 | apply Z4); first | assumption | rfl)) ?_) | fail)))
  refine Za (wordsR_cal (by omega) fun v h1 x1 O => ?_)
  rw [e5] at O ls
  simp only [List.length_cons] at O ls
  have l1 := x1.le
  rcases O.cases with ⟨_, h0, _⟩ | ⟨iw, rfl, hi1, hi2⟩
  · simp at h0
  obtain ⟨wr, opn, gw⟩ := O.get
  by_cases hw : w0 = w
  rotate_left
  · rw [if_neg hw] at er
    (repeat' ((conv => whnf); (first | ((refine ZO (Z7 rfl (by omega) gw) ?_; refine AT.of rfl ?_)) | (refine ZH hw ?_) | (refine ZA (by omega) ?_) | (refine ZB (by omega) ?_) | (refine ZC (fun _ => ?_) fun _ => ?_) | (refine ZD (by omega) ?_) | (refine ZE (by omega) ?_) | (refine ZF (fun _ => ?_) fun _ => ?_) | (refine ZG (by first | rfl | assumption) ?_) | (refine ZH (by first | decide | assumption) ?_) | (refine ZI (fun _ => ?_) fun _ => ?_) | (refine ZJ (by omega) ?_) | (refine ZK (by first | (apply u8_in; omega) | (apply i32_in; omega) | (apply u32_in; omega)) ?_) | (refine ZL (by omega) ?_) | (refine ZM (by omega) ?_) | (refine ZN (by omega) ?_) | ((first | (show GETN _ _ _; apply ZO) | (show GETM _ _ _; apply ZP) | (show SETN _ _ _ _ _ _; apply ZQ) | (show LOOKN _ _ _ _ _ _; apply ZR (QV.load rfl ?g ?hl)) | (show LOOKN _ _ _ _ _ _; apply ZR (QV.loadA rfl ?g ?hl ?ho))); (case g => ((repeat first | refine Z5 ?_ | refine Z6 (by omega) ?_ | refine Z7 (by ((repeat first | apply Z1 | apply Z2 | apply Z3 | apply Z4); first | assumption | rfl)) (by omega) ?_ | refine Z8 (by assumption) (by omega) ?_); first | assumption | exact Z9 (by omega) | exact Z0 (by ((repeat first | apply Z1 | apply Z2 | apply Z3 | apply Z4); first | assumption | rfl)) (by omega))); (try (case hl => rfl)); (try (case ho => first | rfl | (first | decide | (simp; done) | (simp; omega) | exact Nat.le_of_ble_eq_true rfl)))) | (show NEWN _ _; refine ZS (by ((repeat first | apply Z1 | apply Z2 | apply Z3 | apply Z4); first | assumption | rfl)) ?_) | (show DOESN _ _; refine ZT (by first | rfl | omega | (simp; done) | (simp; omega)) ?_) | (refine ZU (by assumption) ?_) | (refine ZV (by assumption) ?_) | (refine ZW (fun _ => ?_) fun _ => ?_) | (refine ZX (by rfl) ?_) | (refine scopeC ?_) | (refine ZZ rfl ?_) | (refine Zz rfl ?_) | (show NUMN _ _; refine ZY (by ((repeat first | apply Z1 | apply Z2 | apply Z3 | apply Z4); first | assumption | rfl)) ?_) | fail)))
    exact k0 er _ (by (repeat' first | exact Exd.refl _ | assumption | refine Exd.new ?_ | refine Exd.set ?_ (by omega) | refine Exd.kill ?_ (by omega)))
  rw [if_pos hw] at er
  (repeat' ((conv => whnf); (first | ((refine ZO (Z7 rfl (by omega) gw) ?_; refine AT.of rfl ?_)) | (refine ZG hw ?_) | (refine ZA (by omega) ?_) | (refine ZB (by omega) ?_) | (refine ZC (fun _ => ?_) fun _ => ?_) | (refine ZD (by omega) ?_) | (refine ZE (by omega) ?_) | (refine ZF (fun _ => ?_) fun _ => ?_) | (refine ZG (by first | rfl | assumption) ?_) | (refine ZH (by first | decide | assumption) ?_) | (refine ZI (fun _ => ?_) fun _ => ?_) | (refine ZJ (by omega) ?_) | (refine ZK (by first | (apply u8_in; omega) | (apply i32_in; omega) | (apply u32_in; omega)) ?_) | (refine ZL (by omega) ?_) | (refine ZM (by omega) ?_) | (refine ZN (by omega) ?_) | ((first | (show GETN _ _ _; apply ZO) | (show GETM _ _ _; apply ZP) | (show SETN _ _ _ _ _ _; apply ZQ) | (show LOOKN _ _ _ _ _ _; apply ZR (QV.load rfl ?g ?hl)) | (show LOOKN _ _ _ _ _ _; apply ZR (QV.loadA rfl ?g ?hl ?ho))); (case g => ((repeat first | refine Z5 ?_ | refine Z6 (by omega) ?_ | refine Z7 (by ((repeat first | apply Z1 | apply Z2 | apply Z3 | apply Z4); first | assumption | rfl)) (by omega) ?_ | refine Z8 (by assumption) (by omega) ?_); first | assumption | exact Z9 (by omega) | exact Z0 (by ((repeat first | apply Z1 | apply Z2 | apply Z3 | apply Z4); first | assumption | rfl)) (by omega))); (try (case hl => rfl)); (try (case ho => first | rfl | (first | decide | (simp; done) | (simp; omega) | exact Nat.le_of_ble_eq_true rfl)))) | (show NEWN _ _; refine ZS (by ((repeat first | apply Z1 | apply Z2 | apply Z3 | apply Z4); first | assumption | rfl)) ?_) | (show DOESN _ _; refine ZT (by first | rfl | omega | (simp; done) | (simp; omega)) ?_) | (refine ZU (by assumption) ?_) | (refine ZV (by assumption) ?_) | (refine ZW (fun _ => ?_) fun _ => ?_) | (refine ZX (by rfl) ?_) | (refine scopeC ?_) | (refine ZZ rfl ?_) | (refine Zz rfl ?_) | (show NUMN _ _; refine ZY (by ((repeat first | apply Z1 | apply Z2 | apply Z3 | apply Z4); first | assumption | rfl)) ?_) | fail)))
  refine loopC (fun x : Nat × Nat × List Int => [(6, .slice iw 0 (r.length + 1) (r.length + 1)), (7, .slice x.2.1 0 x.1 x.1), (8, .int .i64 ((x.1 + 1 : Nat) : Int))])
    (fun x h' => Exd h1 h' ∧ x.1 ≤ r.length ∧ numsR (r.take x.1) = some x.2.2 ∧ Own h1 h' (.slice x.2.1 0 x.1 x.1) 1 x.1 (x.2.2.map (CVal.int .i64))) (fun x => r.length - x.1) (0, h1.next, []) ⟨rfl, rfl, rfl, trivial⟩
    ⟨by (repeat' first | exact Exd.refl _ | assumption | refine Exd.new ?_ | refine Exd.set ?_ (by omega) | refine Exd.kill ?_ (by omega)), Nat.zero_le _, rfl, Own.new (by show Heap.get _ h1.next = _; ((repeat first | refine Z5 ?_ | refine Z6 (by omega) ?_ | refine Z7 (by ((repeat first | apply Z1 | apply Z2 | apply Z3 | apply Z4); first | assumption | rfl)) (by omega) ?_ | refine Z8 (by assumption) (by omega) ?_); first | assumption | exact Z9 (by omega) | exact Z0 (by ((repeat first | apply Z1 | apply Z2 | apply Z3 | apply Z4); first | assumption | rfl)) (by omega))) (Nat.le_refl _) (by show h1.next < _; (first | omega | (dsimp only; omega) | (simp only []; omega) | (simp only [Heap.next_new]; omega) | (simp only [Heap.next_set]; omega) | (simp only [Heap.next_set, Heap.next_new]; omega) | (simp only [Heap.next_set, Heap.next_new, Heap.next_kill]; omega)))⟩ ?_
  rintro ⟨i, b, A⟩ ρ h' ⟨e, hi, hA, O2⟩
  simp only at hi hA O2
  have xe : Exd h h' := Exd.trans x1 e
  have lA := numsR_len hA
  rw [List.length_take] at lA
  by_cases hil : i < r.length
  rotate_left
  · obtain rfl : i = r.length := by omega
    rw [List.take_length] at hA
    (repeat' ((conv => whnf); (first | (refine ZA (by omega) ?_) | (refine ZB (by omega) ?_) | (refine ZC (fun _ => ?_) fun _ => ?_) | (refine ZD (by omega) ?_) | (refine ZE (by omega) ?_) | (refine ZF (fun _ => ?_) fun _ => ?_) | (refine ZG (by first | rfl | assumption) ?_) | (refine ZH (by first | decide | assumption) ?_) | (refine ZI (fun _ => ?_) fun _ => ?_) | (refine ZJ (by omega) ?_) | (refine ZK (by first | (apply u8_in; omega) | (apply i32_in; omega) | (apply u32_in; omega)) ?_) | (refine ZL (by omega) ?_) | (refine ZM (by omega) ?_) | (refine ZN (by omega) ?_) | ((first | (show GETN _ _ _; apply ZO) | (show GETM _ _ _; apply ZP) | (show SETN _ _ _ _ _ _; apply ZQ) | (show LOOKN _ _ _ _ _ _; apply ZR (QV.load rfl ?g ?hl)) | (show LOOKN _ _ _ _ _ _; apply ZR (QV.loadA rfl ?g ?hl ?ho))); (case g => ((repeat first | refine Z5 ?_ | refine Z6 (by omega) ?_ | refine Z7 (by ((repeat first | apply Z1 | apply Z2 | apply Z3 | apply Z4); first | assumption | rfl)) (by omega) ?_ | refine Z8 (by assumption) (by omega) ?_); first | assumption | exact Z9 (by omega) | exact Z0 (by ((repeat first | apply Z1 | apply Z2 | apply Z3 | apply Z4); first | assumption | rfl)) (by omega))); (try (case hl => rfl)); (try (case ho => first | rfl | (first | decide | (simp; done) | (simp; omega) | exact Nat.le_of_ble_eq_true rfl)))) | (show NEWN _ _; refine ZS (by ((repeat first | apply Z1 | apply Z2 | apply Z3 | apply Z4); first | assumption | rfl)) ?_) | (show DOESN _ _; refine ZT (by first | rfl | omega | (simp; done) | (simp; omega)) ?_) | (refine ZU (by assumption) ?_) | (refine ZV (by assumption) ?_) | (refine ZW (fun _ => ?_) fun _ => ?_) | (refine ZX (by rfl) ?_) | (refine scopeC ?_) | (refine ZZ rfl ?_) | (refine Zz rfl ?_) | (show NUMN _ _; refine ZY (by ((repeat first | apply Z1 | apply Z2 | apply Z3 | apply Z4); first | assumption | rfl)) ?_) | fail)))
    have : r.length = A.length := by omega
    rw [this] at O2 ⊢
    exact k1 A (er.trans hA) _ _ xe (O2.base x1.le)
  have gw2 : h'.get iw = some (.cells ((w0 :: r).map .str) wr opn) := Z8 e (by omega) gw
  have aw : ((w0 :: r).map CVal.str)[i + 1]? = some (.str r[i]) := by simp [hil]
  have mr := mf r[i] (List.getElem_mem hil)
  have su := numsR_succ hil hA
  cases hq : refNum r[i] with
  | none =>
    rw [hq] at su
    (repeat' ((conv => whnf); (first | ((refine ZO gw2 ?_; refine AT.of (by show ((w0 :: r).map CVal.str)[0 + ((i + 1 : Nat) : Int).toNat * 1]? = _; rw [show 0 + ((i + 1 : Nat) : Int).toNat * 1 = i + 1 by omega]; exact aw) ?_)) | (refine Za (numN_cal mr hq ?_)) | (refine ZA (by omega) ?_) | (refine ZB (by omega) ?_) | (refine ZC (fun _ => ?_) fun _ => ?_) | (refine ZD (by omega) ?_) | (refine ZE (by omega) ?_) | (refine ZF (fun _ => ?_) fun _ => ?_) | (refine ZG (by first | rfl | assumption) ?_) | (refine ZH (by first | decide | assumption) ?_) | (refine ZI (fun _ => ?_) fun _ => ?_) | (refine ZJ (by omega) ?_) | (refine ZK (by first | (apply u8_in; omega) | (apply i32_in; omega) | (apply u32_in; omega)) ?_) | (refine ZL (by omega) ?_) | (refine ZM (by omega) ?_) | (refine ZN (by omega) ?_) | ((first | (show GETN _ _ _; apply ZO) | (show GETM _ _ _; apply ZP) | (show SETN _ _ _ _ _ _; apply ZQ) | (show LOOKN _ _ _ _ _ _; apply ZR (QV.load rfl ?g ?hl)) | (show LOOKN _ _ _ _ _ _; apply ZR (QV.loadA rfl ?g ?hl ?ho))); (case g => ((repeat first | refine Z5 ?_ | refine Z6 (by omega) ?_ | refine Z7 (by ((repeat first | apply Z1 | apply Z2 | apply Z3 | apply Z4); first | assumption | rfl)) (by omega) ?_ | refine Z8 (by assumption) (by omega) ?_); first | assumption | exact Z9 (by omega) | exact Z0 (by ((repeat first | apply Z1 | apply Z2 | apply Z3 | apply Z4); first | assumption | rfl)) (by omega))); (try (case hl => rfl)); (try (case ho => first | rfl | (first | decide | (simp; done) | (simp; omega) | exact Nat.le_of_ble_eq_true rfl)))) | (show NEWN _ _; refine ZS (by ((repeat first | apply Z1 | apply Z2 | apply Z3 | apply Z4); first | assumption | rfl)) ?_) | (show DOESN _ _; refine ZT (by first | rfl | omega | (simp; done) | (simp; omega)) ?_) | (refine ZU (by assumption) ?_) | (refine ZV (by assumption) ?_) | (refine ZW (fun _ => ?_) fun _ => ?_) | (refine ZX (by rfl) ?_) | (refine scopeC ?_) | (refine ZZ rfl ?_) | (refine Zz rfl ?_) | (show NUMN _ _; refine ZY (by ((repeat first | apply Z1 | apply Z2 | apply Z3 | apply Z4); first | assumption | rfl)) ?_) | fail)))
    exact k0 (er.trans (numsR_none hil su)) _ xe
  | some n =>
    rw [hq] at su
    have step : ∃ h2, appendC (h'.new (.cells [.int .i64 n] true none)) 1 8 (.slice b 0 i i) (.slice h'.next 0 1 1) = some (.slice (h'.next + 1) 0 (i + 1) (i + 1), h2) ∧ Exd h1 h2 ∧ Own h1 h2 (.slice (h'.next + 1) 0 (i + 1) (i + 1)) 1 (i + 1) ((A ++ [n]).map (CVal.int .i64)) := by
      obtain ⟨h2, eb, x2, O3, n2, _⟩ := O2.push (bytes := 8) e (Exd.new (Exd.refl _)) (srcC_one (h'.get_new_same (.cells [.int .i64 n] true none)) rfl (by omega)) (by omega) rfl (by omega)
      rw [Heap.next_new] at eb O3
      rw [List.map_append]
      exact ⟨h2, eb, x2, O3⟩
    obtain ⟨h2, eb, x2, O3⟩ := step
    (repeat' ((conv => whnf); (first | ((refine ZO gw2 ?_; refine AT.of (by show ((w0 :: r).map CVal.str)[0 + ((i + 1 : Nat) : Int).toNat * 1]? = _; rw [show 0 + ((i + 1 : Nat) : Int).toNat * 1 = i + 1 by omega]; exact aw) ?_)) | (refine Za (numS_cal mr hq ?_)) | (refine ZX eb ?_) | (refine ZA (by omega) ?_) | (refine ZB (by omega) ?_) | (refine ZC (fun _ => ?_) fun _ => ?_) | (refine ZD (by omega) ?_) | (refine ZE (by omega) ?_) | (refine ZF (fun _ => ?_) fun _ => ?_) | (refine ZG (by first | rfl | assumption) ?_) | (refine ZH (by first | decide | assumption) ?_) | (refine ZI (fun _ => ?_) fun _ => ?_) | (refine ZJ (by omega) ?_) | (refine ZK (by first | (apply u8_in; omega) | (apply i32_in; omega) | (apply u32_in; omega)) ?_) | (refine ZL (by omega) ?_) | (refine ZM (by omega) ?_) | (refine ZN (by omega) ?_) | ((first | (show GETN _ _ _; apply ZO) | (show GETM _ _ _; apply ZP) | (show SETN _ _ _ _ _ _; apply ZQ) | (show LOOKN _ _ _ _ _ _; apply ZR (QV.load rfl ?g ?hl)) | (show LOOKN _ _ _ _ _ _; apply ZR (QV.loadA rfl ?g ?hl ?ho))); (case g => ((repeat first | refine Z5 ?_ | refine Z6 (by omega) ?_ | refine Z7 (by ((repeat first | apply Z1 | apply Z2 | apply Z3 | apply Z4); first | assumption | rfl)) (by omega) ?_ | refine Z8 (by assumption) (by omega) ?_); first | assumption | exact Z9 (by omega) | exact Z0 (by ((repeat first | apply Z1 | apply Z2 | apply Z3 | apply Z4); first | assumption | rfl)) (by omega))); (try (case hl => rfl)); (try (case ho => first | rfl | (first | decide | (simp; done) | (simp; omega) | exact Nat.le_of_ble_eq_true rfl)))) | (show NEWN _ _; refine ZS (by ((repeat first | apply Z1 | apply Z2 | apply Z3 | apply Z4); first | assumption | rfl)) ?_) | (show DOESN _ _; refine ZT (by first | rfl | omega | (simp; done) | (simp; omega)) ?_) | (refine ZU (by assumption) ?_) | (refine ZV (by assumption) ?_) | (refine ZW (fun _ => ?_) fun _ => ?_) | (refine ZX (by rfl) ?_) | (refine scopeC ?_) | (refine ZZ rfl ?_) | (refine Zz rfl ?_) | (show NUMN _ _; refine ZY (by ((repeat first | apply Z1 | apply Z2 | apply Z3 | apply Z4); first | assumption | rfl)) ?_) | fail)))
    exact ⟨rfl, (i + 1, _, A ++ [n]), ⟨rfl, rfl, rfl, trivial⟩, ⟨x2, hil, su, O3⟩, by show r.length - (i + 1) < r.length - i; omega⟩
end Go.Proofs.YthdeoeokjmmnbaaDoor.Cm
