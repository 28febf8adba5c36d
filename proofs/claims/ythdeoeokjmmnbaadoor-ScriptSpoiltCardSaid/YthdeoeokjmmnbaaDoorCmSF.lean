/-
  Jobs as texts: how a line is read into a job.
-/
import Derived.Test.YthdeoeokjmmnbaaDoorCmSE
import Derived.Test.YthdeoeokjmmnbaaDoorCmZ
namespace Go.Proofs.YthdeoeokjmmnbaaDoor.Cm
open Go.RowKit Go.IntWalk
attribute [local irreducible] Heap.set Heap.new Heap.kill Heap.get Heap.room Cal WP

/-- A row of numbers that lies behind b. -/
def RBeh (b : Nat) (h : Heap) (v : CVal) (R : List Int) : Prop := RIn h v R ∧ ∀ i o l c, v = .slice i o l c → b + 4 < i
theorem RBeh.upds {S : Nat → Prop} {b : Nat} {h h' : Heap} {v : CVal} {R : List Int} (s : RBeh b h v R) (u : Upd S h h') (hS : ∀ i, S i → i ≤ b + 4) : RBeh b h' v R := by
  refine ⟨?_, s.2⟩
  rcases s.1 with s1 | ⟨i, o, c, rfl, s2, s3⟩
  · exact .inl s1
  · have := s.2 _ _ _ _ rfl
    exact .inr ⟨i, o, c, rfl, Nat.lt_of_lt_of_le s2 u.le, s3.imp id fun ⟨cs, wr, opn, g, a⟩ => ⟨cs, wr, opn, (u.get i s2 (fun h => by have := hS i h; omega)).trans g, a⟩⟩
theorem RBeh.upd {b : Nat} {h h' : Heap} {v : CVal} {R : List Int} (s : RBeh b h v R) (u : Upd (· = b) h h') : RBeh b h' v R := s.upds u fun i e => by have : i = b := e; omega
theorem RBeh.nil {b : Nat} {h : Heap} : RBeh b h .nilSlice [] := ⟨.inl ⟨rfl, rfl⟩, fun _ _ _ _ e => by simp at e⟩
def JB (b : Nat) (h : Heap) (j : Job) : Prop := ∃ vi vp, h.get b = some (.cells (j.cs vi vp) true none) ∧ RBeh b h vi j.ins ∧ RBeh b h vp j.pk
theorem JB.upds {S : Nat → Prop} {b : Nat} {h h' : Heap} {j : Job} (J : JB b h j) (hb : b < h.next) (u : Upd S h h') (hS : ∀ i, S i → i ≤ b + 4) (h0 : ¬ S b) : JB b h' j :=
  let ⟨vi, vp, g, ri, rp⟩ := J
  ⟨vi, vp, (u.get b hb h0).trans g, ri.upds u hS, rp.upds u hS⟩

/-- How a line, the n-th one, turns a job; false: it is not as it must be. -/
def stepJ (n : Nat) (s : List UInt8) (j : Job) : Bool × Job :=
  if n = 1 then (decide (s = lineB (modeT true) [] ∨ s = lineB (modeT false) []), { j with cl := decide (s = lineB (modeT true) []) })
  else if n = 2 then match numsB s with
    | [a, b, c] => (decide (s = lineB limW [a, b, c]), { j with p := a, st := b, so := c })
    | _ => (false, j)
  else if n = 3 then (decide (s = lineB inW (numsB s)), { j with ins := numsB s })
  else if n = 4 then (decide (s = lineB pkW (numsB s)), { j with pk := numsB s })
  else (false, j)

set_option maxHeartbeats 4000000 in
theorem rd_cal {s : List UInt8} {n b : Nat} {j : Job} {h : Heap} {Q : CVal → Heap → Prop} (hs : s.length ≤ 99990) (hn : 1 ≤ n ∧ n ≤ 200000) (J : JB b h j) (hb' : b + 4 < h.next) (k : ∀ r j' h', stepJ n s j = (r, j') → Upd (· = b) h h' → JB b h' j' → Q (.bool r) h') : Cal tt 16 [.ptr b 0, .int .i64 n, .str s] h Q := by
  have hb : b < h.next := by omega
  refine Cal.run rfl rfl rfl rfl ?_
  (repeat' ((conv => whnf); (first | (refine ZA (by omega) ?_) | (refine ZB (by omega) ?_) | (refine ZC (fun _ => ?_) fun _ => ?_) | (refine ZD (by omega) ?_) | (refine ZE (by omega) ?_) | (refine ZF (fun _ => ?_) fun _ => ?_) | (refine ZG (by first | rfl | assumption) ?_) | (refine ZH (by first | decide | assumption) ?_) | (refine ZI (fun _ => ?_) fun _ => ?_) | (refine ZJ (by omega) ?_) | (refine ZK (by first | (apply u8_in; omega) | (apply i32_in; omega) | (apply u32_in; omega)) ?_) | (refine ZL (by omega) ?_) | (refine ZM (by omega) ?_) | (refine ZN (by omega) ?_) | ((first | (show GETN _ _ _; apply ZO) | (show GETM _ _ _; apply ZP) | (show SETN _ _ _ _ _ _; apply ZQ) | (show LOOKN _ _ _ _ _ _; apply ZR (QV.load rfl ?g ?hl)) | (show LOOKN _ _ _ _ _ _; apply ZR (QV.loadA rfl ?g ?hl ?ho))); (case g => ((repeat first | refine Z5 ?_ | refine Z6 (by omega) ?_ | refine Z7 (by ((repeat first | apply Z1 | apply Z2 | apply Z3 | apply Z4); first | assumption | rfl)) (by omega) ?_ | refine Z8 (by assumption) (by omega) ?_); first | assumption | exact Z9 (by omega) | exact Z0 (by ((repeat first | apply Z1 | apply Z2 | apply Z3 | apply Z4); first | assumption | rfl)) (by omega))); (try (case hl => rfl)); (try (case ho => first | rfl | (first | decide | (simp; done) | (simp; omega) | exact Nat.le_of_ble_eq_true rfl)))) | (show NEWN _ _; refine ZS (by ((repeat first | apply Z1 | apply Z2 | apply Z3 | apply Z4); first | assumption | rfl)) ?_) | (show DOESN _ _; refine ZT (by first | rfl | omega | (simp; done) | (simp; omega)) ?_) | (refine ZU (by assumption) ?_) | (refine ZV (by assumption) ?_) | (refine ZW (fun _ => ?_) fun _ => ?_) | (refine ZX (by rfl) ?_) | (refine scopeC ?_) | (refine ZZ rfl ?_) | (refine Zz rfl ?_) | (show NUMN _ _; refine ZY (by ((repeat first | apply Z1 | apply Z2 | apply Z3 | apply Z4); first | assumption | rfl)) ?_) | fail)))
  refine Za (numbers_cal (by omega) fun v h1 x1 O => ?_)
  have lN := numsB_length s
  have N64 := numsB_64 s
  obtain ⟨vi, vp, g, ri, rp⟩ := J
  have g1 : h1.get b = some (.cells (j.cs vi vp) true none) := Z8 x1 hb g
  have l1 := x1.le
  have u1 : Upd (· = b) h h1 := x1.upd
  have RN := O.ints
  have BN : RBeh b h1 v (numsB s) := ⟨RN, fun i o l c e => by have := (O.2 i o l c e).1; omega⟩
  have ri1 := ri.upd u1
  have rp1 := rp.upd u1
  rw [Job.cs] at g1
  have ub : ∀ {cs : List CVal}, Upd (· = b) h (h1.set b (.cells cs true none)) := u1.set (.inl rfl)
  have us : ∀ {cs : List CVal}, Upd (· = b) h1 (h1.set b (.cells cs true none)) := (Upd.refl _ _).set (.inl rfl)
  have gs : ∀ {cs : List CVal}, (h1.set b (.cells cs true none)).get b = some (.cells cs true none) := Z9 rfl
  have ne2 : ¬ lineB (modeT false) [] = lineB (modeT true) [] := by decide
  by_cases n1 : n = 1
  · subst n1
    rcases RN.head with ⟨rfl, _⟩ | ⟨_, _, _, _, rfl⟩
    all_goals
    (repeat' ((conv => whnf); (first | (refine Za (mode_cal ?_)) | (refine Za (line_cal (R := []) (.inl ⟨rfl, rfl⟩) I64.nil (modeT_100 _) (by simp) ?_)) | (refine ZA (by omega) ?_) | (refine ZB (by omega) ?_) | (refine ZC (fun _ => ?_) fun _ => ?_) | (refine ZD (by omega) ?_) | (refine ZE (by omega) ?_) | (refine ZF (fun _ => ?_) fun _ => ?_) | (refine ZG (by first | rfl | assumption) ?_) | (refine ZH (by first | decide | assumption) ?_) | (refine ZI (fun _ => ?_) fun _ => ?_) | (refine ZJ (by omega) ?_) | (refine ZK (by first | (apply u8_in; omega) | (apply i32_in; omega) | (apply u32_in; omega)) ?_) | (refine ZL (by omega) ?_) | (refine ZM (by omega) ?_) | (refine ZN (by omega) ?_) | ((first | (show GETN _ _ _; apply ZO) | (show GETM _ _ _; apply ZP) | (show SETN _ _ _ _ _ _; apply ZQ) | (show LOOKN _ _ _ _ _ _; apply ZR (QV.load rfl ?g ?hl)) | (show LOOKN _ _ _ _ _ _; apply ZR (QV.loadA rfl ?g ?hl ?ho))); (case g => ((repeat first | refine Z5 ?_ | refine Z6 (by omega) ?_ | refine Z7 (by ((repeat first | apply Z1 | apply Z2 | apply Z3 | apply Z4); first | assumption | rfl)) (by omega) ?_ | refine Z8 (by assumption) (by omega) ?_); first | assumption | exact Z9 (by omega) | exact Z0 (by ((repeat first | apply Z1 | apply Z2 | apply Z3 | apply Z4); first | assumption | rfl)) (by omega))); (try (case hl => rfl)); (try (case ho => first | rfl | (first | decide | (simp; done) | (simp; omega) | exact Nat.le_of_ble_eq_true rfl)))) | (show NEWN _ _; refine ZS (by ((repeat first | apply Z1 | apply Z2 | apply Z3 | apply Z4); first | assumption | rfl)) ?_) | (show DOESN _ _; refine ZT (by first | rfl | omega | (simp; done) | (simp; omega)) ?_) | (refine ZU (by assumption) ?_) | (refine ZV (by assumption) ?_) | (refine ZW (fun _ => ?_) fun _ => ?_) | (refine ZX (by rfl) ?_) | (refine scopeC ?_) | (refine ZZ rfl ?_) | (refine Zz rfl ?_) | (show NUMN _ _; refine ZY (by ((repeat first | apply Z1 | apply Z2 | apply Z3 | apply Z4); first | assumption | rfl)) ?_) | fail)))
    · exact k true { j with cl := true } _ (by simp [stepJ, *]) ub ⟨vi, vp, gs, ri1.upd us, rp1.upd us⟩
    · exact k true { j with cl := false } _ (by simp [stepJ, *]) ub ⟨vi, vp, gs, ri1.upd us, rp1.upd us⟩
    · exact k false { j with cl := false } _ (by simp [stepJ, *]) ub ⟨vi, vp, gs, ri1.upd us, rp1.upd us⟩
  by_cases n2 : n = 2
  · subst n2
    have s2 : stepJ 2 s j = match numsB s with
      | [a, b, c] => (decide (s = lineB limW [a, b, c]), { j with p := a, st := b, so := c })
      | _ => (false, j) := rfl
    generalize numsB s = N at *
    by_cases h3 : N.length = 3
    · obtain ⟨x, y, z, rfl⟩ : ∃ x y z, N = [x, y, z] := by
        match N, h3 with
        | [x, y, z], _ => exact ⟨x, y, z, rfl⟩
      rcases O.cases with ⟨_, h0, _⟩ | ⟨i, rfl, hi1, hi2⟩
      · simp at h0
      obtain ⟨wr, opn, gi⟩ := O.get
      change h1.get i = some (.cells [.int .i64 x, .int .i64 y, .int .i64 z] wr opn) at gi
      (repeat' ((conv => whnf); (first | (refine ZD rfl ?_) | (refine ZO gi ?_) | (refine Za (line_cal (w := limW) (R := [x, y, z]) (BN.upd us).1 N64 (by decide) (by simp) ?_)) | (refine ZA (by omega) ?_) | (refine ZB (by omega) ?_) | (refine ZC (fun _ => ?_) fun _ => ?_) | (refine ZD (by omega) ?_) | (refine ZE (by omega) ?_) | (refine ZF (fun _ => ?_) fun _ => ?_) | (refine ZG (by first | rfl | assumption) ?_) | (refine ZH (by first | decide | assumption) ?_) | (refine ZI (fun _ => ?_) fun _ => ?_) | (refine ZJ (by omega) ?_) | (refine ZK (by first | (apply u8_in; omega) | (apply i32_in; omega) | (apply u32_in; omega)) ?_) | (refine ZL (by omega) ?_) | (refine ZM (by omega) ?_) | (refine ZN (by omega) ?_) | ((first | (show GETN _ _ _; apply ZO) | (show GETM _ _ _; apply ZP) | (show SETN _ _ _ _ _ _; apply ZQ) | (show LOOKN _ _ _ _ _ _; apply ZR (QV.load rfl ?g ?hl)) | (show LOOKN _ _ _ _ _ _; apply ZR (QV.loadA rfl ?g ?hl ?ho))); (case g => ((repeat first | refine Z5 ?_ | refine Z6 (by omega) ?_ | refine Z7 (by ((repeat first | apply Z1 | apply Z2 | apply Z3 | apply Z4); first | assumption | rfl)) (by omega) ?_ | refine Z8 (by assumption) (by omega) ?_); first | assumption | exact Z9 (by omega) | exact Z0 (by ((repeat first | apply Z1 | apply Z2 | apply Z3 | apply Z4); first | assumption | rfl)) (by omega))); (try (case hl => rfl)); (try (case ho => first | rfl | (first | decide | (simp; done) | (simp; omega) | exact Nat.le_of_ble_eq_true rfl)))) | (show NEWN _ _; refine ZS (by ((repeat first | apply Z1 | apply Z2 | apply Z3 | apply Z4); first | assumption | rfl)) ?_) | (show DOESN _ _; refine ZT (by first | rfl | omega | (simp; done) | (simp; omega)) ?_) | (refine ZU (by assumption) ?_) | (refine ZV (by assumption) ?_) | (refine ZW (fun _ => ?_) fun _ => ?_) | (refine ZX (by rfl) ?_) | (refine scopeC ?_) | (refine ZZ rfl ?_) | (refine Zz rfl ?_) | (show NUMN _ _; refine ZY (by ((repeat first | apply Z1 | apply Z2 | apply Z3 | apply Z4); first | assumption | rfl)) ?_) | fail)))
      · exact k true { j with p := x, st := y, so := z } _ (by rw [s2]; simp; assumption) ub ⟨vi, vp, gs, ri1.upd us, rp1.upd us⟩
      · exact k false { j with p := x, st := y, so := z } _ (by rw [s2]; simp; assumption) ub ⟨vi, vp, gs, ri1.upd us, rp1.upd us⟩
    · have s3 : stepJ 2 s j = (false, j) := by
        rw [s2]
        split
        · exact absurd rfl h3
        · rfl
      rcases RN.head with ⟨rfl, rfl⟩ | ⟨_, _, _, _, rfl⟩
      · (repeat' ((conv => whnf); (first | (refine ZA (by omega) ?_) | (refine ZB (by omega) ?_) | (refine ZC (fun _ => ?_) fun _ => ?_) | (refine ZD (by omega) ?_) | (refine ZE (by omega) ?_) | (refine ZF (fun _ => ?_) fun _ => ?_) | (refine ZG (by first | rfl | assumption) ?_) | (refine ZH (by first | decide | assumption) ?_) | (refine ZI (fun _ => ?_) fun _ => ?_) | (refine ZJ (by omega) ?_) | (refine ZK (by first | (apply u8_in; omega) | (apply i32_in; omega) | (apply u32_in; omega)) ?_) | (refine ZL (by omega) ?_) | (refine ZM (by omega) ?_) | (refine ZN (by omega) ?_) | ((first | (show GETN _ _ _; apply ZO) | (show GETM _ _ _; apply ZP) | (show SETN _ _ _ _ _ _; apply ZQ) | (show LOOKN _ _ _ _ _ _; apply ZR (QV.load rfl ?g ?hl)) | (show LOOKN _ _ _ _ _ _; apply ZR (QV.loadA rfl ?g ?hl ?ho))); (case g => ((repeat first | refine Z5 ?_ | refine Z6 (by omega) ?_ | refine Z7 (by ((repeat first | apply Z1 | apply Z2 | apply Z3 | apply Z4); first | assumption | rfl)) (by omega) ?_ | refine Z8 (by assumption) (by omega) ?_); first | assumption | exact Z9 (by omega) | exact Z0 (by ((repeat first | apply Z1 | apply Z2 | apply Z3 | apply Z4); first | assumption | rfl)) (by omega))); (try (case hl => rfl)); (try (case ho => first | rfl | (first | decide | (simp; done) | (simp; omega) | exact Nat.le_of_ble_eq_true rfl)))) | (show NEWN _ _; refine ZS (by ((repeat first | apply Z1 | apply Z2 | apply Z3 | apply Z4); first | assumption | rfl)) ?_) | (show DOESN _ _; refine ZT (by first | rfl | omega | (simp; done) | (simp; omega)) ?_) | (refine ZU (by assumption) ?_) | (refine ZV (by assumption) ?_) | (refine ZW (fun _ => ?_) fun _ => ?_) | (refine ZX (by rfl) ?_) | (refine scopeC ?_) | (refine ZZ rfl ?_) | (refine Zz rfl ?_) | (show NUMN _ _; refine ZY (by ((repeat first | apply Z1 | apply Z2 | apply Z3 | apply Z4); first | assumption | rfl)) ?_) | fail)))
        exact k false j _ s3 u1 ⟨vi, vp, g1, ri1, rp1⟩
      · rcases O.cases with ⟨h0, _⟩ | ⟨i, h0, hi1, hi2⟩
        · simp at h0
        · simp only [CVal.slice.injEq] at h0
          obtain ⟨rfl, rfl, rfl, rfl⟩ := h0
          (repeat' ((conv => whnf); (first | (refine ZE (by omega) ?_) | (refine ZA (by omega) ?_) | (refine ZB (by omega) ?_) | (refine ZC (fun _ => ?_) fun _ => ?_) | (refine ZD (by omega) ?_) | (refine ZE (by omega) ?_) | (refine ZF (fun _ => ?_) fun _ => ?_) | (refine ZG (by first | rfl | assumption) ?_) | (refine ZH (by first | decide | assumption) ?_) | (refine ZI (fun _ => ?_) fun _ => ?_) | (refine ZJ (by omega) ?_) | (refine ZK (by first | (apply u8_in; omega) | (apply i32_in; omega) | (apply u32_in; omega)) ?_) | (refine ZL (by omega) ?_) | (refine ZM (by omega) ?_) | (refine ZN (by omega) ?_) | ((first | (show GETN _ _ _; apply ZO) | (show GETM _ _ _; apply ZP) | (show SETN _ _ _ _ _ _; apply ZQ) | (show LOOKN _ _ _ _ _ _; apply ZR (QV.load rfl ?g ?hl)) | (show LOOKN _ _ _ _ _ _; apply ZR (QV.loadA rfl ?g ?hl ?ho))); (case g => ((repeat first | refine Z5 ?_ | refine Z6 (by omega) ?_ | refine Z7 (by ((repeat first | apply Z1 | apply Z2 | apply Z3 | apply Z4); first | assumption | rfl)) (by omega) ?_ | refine Z8 (by assumption) (by omega) ?_); first | assumption | exact Z9 (by omega) | exact Z0 (by ((repeat first | apply Z1 | apply Z2 | apply Z3 | apply Z4); first | assumption | rfl)) (by omega))); (try (case hl => rfl)); (try (case ho => first | rfl | (first | decide | (simp; done) | (simp; omega) | exact Nat.le_of_ble_eq_true rfl)))) | (show NEWN _ _; refine ZS (by ((repeat first | apply Z1 | apply Z2 | apply Z3 | apply Z4); first | assumption | rfl)) ?_) | (show DOESN _ _; refine ZT (by first | rfl | omega | (simp; done) | (simp; omega)) ?_) | (refine ZU (by assumption) ?_) | (refine ZV (by assumption) ?_) | (refine ZW (fun _ => ?_) fun _ => ?_) | (refine ZX (by rfl) ?_) | (refine scopeC ?_) | (refine ZZ rfl ?_) | (refine Zz rfl ?_) | (show NUMN _ _; refine ZY (by ((repeat first | apply Z1 | apply Z2 | apply Z3 | apply Z4); first | assumption | rfl)) ?_) | fail)))
          exact k false j _ s3 u1 ⟨vi, vp, g1, ri1, rp1⟩
  by_cases n3 : n = 3
  · subst n3
    rcases RN.head with ⟨rfl, _⟩ | ⟨_, _, _, _, rfl⟩
    all_goals
    (repeat' ((conv => whnf); (first | (refine Za (line_cal (w := inW) (R := numsB s) (BN.upd us).1 N64 (by decide) (by omega) ?_)) | (refine ZA (by omega) ?_) | (refine ZB (by omega) ?_) | (refine ZC (fun _ => ?_) fun _ => ?_) | (refine ZD (by omega) ?_) | (refine ZE (by omega) ?_) | (refine ZF (fun _ => ?_) fun _ => ?_) | (refine ZG (by first | rfl | assumption) ?_) | (refine ZH (by first | decide | assumption) ?_) | (refine ZI (fun _ => ?_) fun _ => ?_) | (refine ZJ (by omega) ?_) | (refine ZK (by first | (apply u8_in; omega) | (apply i32_in; omega) | (apply u32_in; omega)) ?_) | (refine ZL (by omega) ?_) | (refine ZM (by omega) ?_) | (refine ZN (by omega) ?_) | ((first | (show GETN _ _ _; apply ZO) | (show GETM _ _ _; apply ZP) | (show SETN _ _ _ _ _ _; apply ZQ) | (show LOOKN _ _ _ _ _ _; apply ZR (QV.load rfl ?g ?hl)) | (show LOOKN _ _ _ _ _ _; apply ZR (QV.loadA rfl ?g ?hl ?ho))); (case g => ((repeat first | refine Z5 ?_ | refine Z6 (by omega) ?_ | refine Z7 (by ((repeat first | apply Z1 | apply Z2 | apply Z3 | apply Z4); first | assumption | rfl)) (by omega) ?_ | refine Z8 (by assumption) (by omega) ?_); first | assumption | exact Z9 (by omega) | exact Z0 (by ((repeat first | apply Z1 | apply Z2 | apply Z3 | apply Z4); first | assumption | rfl)) (by omega))); (try (case hl => rfl)); (try (case ho => first | rfl | (first | decide | (simp; done) | (simp; omega) | exact Nat.le_of_ble_eq_true rfl)))) | (show NEWN _ _; refine ZS (by ((repeat first | apply Z1 | apply Z2 | apply Z3 | apply Z4); first | assumption | rfl)) ?_) | (show DOESN _ _; refine ZT (by first | rfl | omega | (simp; done) | (simp; omega)) ?_) | (refine ZU (by assumption) ?_) | (refine ZV (by assumption) ?_) | (refine ZW (fun _ => ?_) fun _ => ?_) | (refine ZX (by rfl) ?_) | (refine scopeC ?_) | (refine ZZ rfl ?_) | (refine Zz rfl ?_) | (show NUMN _ _; refine ZY (by ((repeat first | apply Z1 | apply Z2 | apply Z3 | apply Z4); first | assumption | rfl)) ?_) | fail)))
    · exact k true { j with ins := numsB s } _ (by simp [stepJ]; assumption) ub ⟨_, vp, gs, BN.upd us, rp1.upd us⟩
    · exact k false { j with ins := numsB s } _ (by simp [stepJ]; assumption) ub ⟨_, vp, gs, BN.upd us, rp1.upd us⟩
  by_cases n4 : n = 4
  · subst n4
    rcases RN.head with ⟨rfl, _⟩ | ⟨_, _, _, _, rfl⟩
    all_goals
    (repeat' ((conv => whnf); (first | (refine Za (line_cal (w := pkW) (R := numsB s) (BN.upd us).1 N64 (by decide) (by omega) ?_)) | (refine ZA (by omega) ?_) | (refine ZB (by omega) ?_) | (refine ZC (fun _ => ?_) fun _ => ?_) | (refine ZD (by omega) ?_) | (refine ZE (by omega) ?_) | (refine ZF (fun _ => ?_) fun _ => ?_) | (refine ZG (by first | rfl | assumption) ?_) | (refine ZH (by first | decide | assumption) ?_) | (refine ZI (fun _ => ?_) fun _ => ?_) | (refine ZJ (by omega) ?_) | (refine ZK (by first | (apply u8_in; omega) | (apply i32_in; omega) | (apply u32_in; omega)) ?_) | (refine ZL (by omega) ?_) | (refine ZM (by omega) ?_) | (refine ZN (by omega) ?_) | ((first | (show GETN _ _ _; apply ZO) | (show GETM _ _ _; apply ZP) | (show SETN _ _ _ _ _ _; apply ZQ) | (show LOOKN _ _ _ _ _ _; apply ZR (QV.load rfl ?g ?hl)) | (show LOOKN _ _ _ _ _ _; apply ZR (QV.loadA rfl ?g ?hl ?ho))); (case g => ((repeat first | refine Z5 ?_ | refine Z6 (by omega) ?_ | refine Z7 (by ((repeat first | apply Z1 | apply Z2 | apply Z3 | apply Z4); first | assumption | rfl)) (by omega) ?_ | refine Z8 (by assumption) (by omega) ?_); first | assumption | exact Z9 (by omega) | exact Z0 (by ((repeat first | apply Z1 | apply Z2 | apply Z3 | apply Z4); first | assumption | rfl)) (by omega))); (try (case hl => rfl)); (try (case ho => first | rfl | (first | decide | (simp; done) | (simp; omega) | exact Nat.le_of_ble_eq_true rfl)))) | (show NEWN _ _; refine ZS (by ((repeat first | apply Z1 | apply Z2 | apply Z3 | apply Z4); first | assumption | rfl)) ?_) | (show DOESN _ _; refine ZT (by first | rfl | omega | (simp; done) | (simp; omega)) ?_) | (refine ZU (by assumption) ?_) | (refine ZV (by assumption) ?_) | (refine ZW (fun _ => ?_) fun _ => ?_) | (refine ZX (by rfl) ?_) | (refine scopeC ?_) | (refine ZZ rfl ?_) | (refine Zz rfl ?_) | (show NUMN _ _; refine ZY (by ((repeat first | apply Z1 | apply Z2 | apply Z3 | apply Z4); first | assumption | rfl)) ?_) | fail)))
    · exact k true { j with pk := numsB s } _ (by simp [stepJ]; assumption) ub ⟨vi, _, gs, ri1.upd us, BN.upd us⟩
    · exact k false { j with pk := numsB s } _ (by simp [stepJ]; assumption) ub ⟨vi, _, gs, ri1.upd us, BN.upd us⟩
  · rcases RN.head with ⟨rfl, _⟩ | ⟨_, _, _, _, rfl⟩
    all_goals
    (repeat' ((conv => whnf); (first | (refine ZA (by omega) ?_) | (refine ZB (by omega) ?_) | (refine ZC (fun _ => ?_) fun _ => ?_) | (refine ZD (by omega) ?_) | (refine ZE (by omega) ?_) | (refine ZF (fun _ => ?_) fun _ => ?_) | (refine ZG (by first | rfl | assumption) ?_) | (refine ZH (by first | decide | assumption) ?_) | (refine ZI (fun _ => ?_) fun _ => ?_) | (refine ZJ (by omega) ?_) | (refine ZK (by first | (apply u8_in; omega) | (apply i32_in; omega) | (apply u32_in; omega)) ?_) | (refine ZL (by omega) ?_) | (refine ZM (by omega) ?_) | (refine ZN (by omega) ?_) | ((first | (show GETN _ _ _; apply ZO) | (show GETM _ _ _; apply ZP) | (show SETN _ _ _ _ _ _; apply ZQ) | (show LOOKN _ _ _ _ _ _; apply ZR (QV.load rfl ?g ?hl)) | (show LOOKN _ _ _ _ _ _; apply ZR (QV.loadA rfl ?g ?hl ?ho))); (case g => ((repeat first | refine Z5 ?_ | refine Z6 (by omega) ?_ | refine Z7 (by ((repeat first | apply Z1 | apply Z2 | apply Z3 | apply Z4); first | assumption | rfl)) (by omega) ?_ | refine Z8 (by assumption) (by omega) ?_); first | assumption | exact Z9 (by omega) | exact Z0 (by ((repeat first | apply Z1 | apply Z2 | apply Z3 | apply Z4); first | assumption | rfl)) (by omega))); (try (case hl => rfl)); (try (case ho => first | rfl | (first | decide | (simp; done) | (simp; omega) | exact Nat.le_of_ble_eq_true rfl)))) | (show NEWN _ _; refine ZS (by ((repeat first | apply Z1 | apply Z2 | apply Z3 | apply Z4); first | assumption | rfl)) ?_) | (show DOESN _ _; refine ZT (by first | rfl | omega | (simp; done) | (simp; omega)) ?_) | (refine ZU (by assumption) ?_) | (refine ZV (by assumption) ?_) | (refine ZW (fun _ => ?_) fun _ => ?_) | (refine ZX (by rfl) ?_) | (refine scopeC ?_) | (refine ZZ rfl ?_) | (refine Zz rfl ?_) | (show NUMN _ _; refine ZY (by ((repeat first | apply Z1 | apply Z2 | apply Z3 | apply Z4); first | assumption | rfl)) ?_) | fail)))
    exact k false j _ (by simp [stepJ, n1, n2, n3, n4]) u1 ⟨vi, vp, g1, ri1, rp1⟩
end Go.Proofs.YthdeoeokjmmnbaaDoor.Cm
