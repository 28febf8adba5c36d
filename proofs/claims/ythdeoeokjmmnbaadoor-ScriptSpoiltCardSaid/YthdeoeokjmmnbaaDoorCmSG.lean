/-
  Jobs as texts: a round of Read's range over the lines.
-/
import Derived.Test.YthdeoeokjmmnbaaDoorCmSF
import Derived.Test.YthdeoeokjmmnbaaDoorCmZ
namespace Go.Proofs.YthdeoeokjmmnbaaDoor.Cm
open Go.RowKit Go.IntWalk
attribute [local irreducible] Heap.set Heap.new Heap.kill Heap.get Heap.room Cal WP

def zeroJ : List CVal := [.bool false, .int .i64 0, .int .i64 0, .int .i64 0, .nilSlice, .nilSlice]
/-- The slots of Read, as its range begins. -/
def rho (s : List UInt8) (B : Nat) : Env := argsE [.str s, .un, .ptr B 0, .ptr (B + 1) 0, .ptr (B + 2) 0, .ptr (B + 3) 0, .ptr (B + 4) 0, .un, .str s, .func 20 [] [.ptr (B + 5) 0]]

/-- Read's memory after n good lines. -/
structure RS (h₀ : Heap) (s : List UInt8) (B : Nat) (h : Heap) (n : Nat) (j : Job) : Prop where
  x : Exd h₀ h
  nb : h₀.next = B
  nx : B + 8 ≤ h.next
  gl : h.get (B + 7) = some (.loop .ready none 9 0 1 (envL 25 (rho s B)) (B + 6))
  gd : h.get (B + 6) = some .dfr
  g2 : h.get B = some (.cells zeroJ true none)
  g3 : h.get (B + 1) = some (.cells [.int .i64 0] true none)
  g4 : h.get (B + 2) = some (.cells [.int .i64 0] true none)
  gj : JB (B + 3) h j
  gn : h.get (B + 4) = some (.cells [.int .i64 n] true none)
/-- Read's memory after a bad line, the n-th. -/
structure RBad (h₀ : Heap) (s : List UInt8) (B : Nat) (h : Heap) (n : Nat) : Prop where
  x : Exd h₀ h
  nb : h₀.next = B
  nx : B + 8 ≤ h.next
  gl : h.get (B + 7) = some (.loop .done (some .ret) 9 0 1 (envL 25 (rho s B)) (B + 6))
  gd : h.get (B + 6) = some .dfr
  g2 : h.get B = some (.cells zeroJ true none)
  g3 : h.get (B + 1) = some (.cells [.int .i64 n] true none)
  g4 : h.get (B + 2) = some (.cells [.int .i64 6] true none)

set_option maxHeartbeats 4000000 in
theorem round_cal {h₀ h : Heap} {s l : List UInt8} {B n : Nat} {j : Job} {Q : CVal → Heap → Prop} (R : RS h₀ s B h n j) (hl : l.length ≤ 99990) (hn : n < 200000)
    (k1 : ∀ j' h', stepJ (n + 1) l j = (true, j') → RS h₀ s B h' (n + 1) j' → h'.get (B + 5) = h.get (B + 5) → Q (.bool true) h')
    (k0 : ∀ j' h', stepJ (n + 1) l j = (false, j') → RBad h₀ s B h' (n + 1) → Q (.bool false) h') : CalR tt (B + 7) [.str l] h Q := by
  obtain ⟨x, nb, nx, gl, gd, g2, g3, g4, gj, gn⟩ := R
  refine roundC gl rfl rfl ?_
  (repeat' ((conv => whnf); (first | (refine ZA (by omega) ?_) | (refine ZB (by omega) ?_) | (refine ZC (fun _ => ?_) fun _ => ?_) | (refine ZD (by omega) ?_) | (refine ZE (by omega) ?_) | (refine ZF (fun _ => ?_) fun _ => ?_) | (refine ZG (by first | rfl | assumption) ?_) | (refine ZH (by first | decide | assumption) ?_) | (refine ZI (fun _ => ?_) fun _ => ?_) | (refine ZJ (by omega) ?_) | (refine ZK (by first | (apply u8_in; omega) | (apply i32_in; omega) | (apply u32_in; omega)) ?_) | (refine ZL (by omega) ?_) | (refine ZM (by omega) ?_) | (refine ZN (by omega) ?_) | ((first | (show GETN _ _ _; apply ZO) | (show GETM _ _ _; apply ZP) | (show SETN _ _ _ _ _ _; apply ZQ) | (show LOOKN _ _ _ _ _ _; apply ZR (QV.load rfl ?g ?hl)) | (show LOOKN _ _ _ _ _ _; apply ZR (QV.loadA rfl ?g ?hl ?ho))); (case g => ((repeat first | refine Z5 ?_ | refine Z6 (by omega) ?_ | refine Z7 (by ((repeat first | apply Z1 | apply Z2 | apply Z3 | apply Z4); first | assumption | rfl)) (by omega) ?_ | refine Z8 (by assumption) (by omega) ?_); first | assumption | exact Z9 (by omega) | exact Z0 (by ((repeat first | apply Z1 | apply Z2 | apply Z3 | apply Z4); first | assumption | rfl)) (by omega))); (try (case hl => rfl)); (try (case ho => first | rfl | (first | decide | (simp; done) | (simp; omega) | exact Nat.le_of_ble_eq_true rfl)))) | (show NEWN _ _; refine ZS (by ((repeat first | apply Z1 | apply Z2 | apply Z3 | apply Z4); first | assumption | rfl)) ?_) | (show DOESN _ _; refine ZT (by first | rfl | omega | (simp; done) | (simp; omega)) ?_) | (refine ZU (by assumption) ?_) | (refine ZV (by assumption) ?_) | (refine ZW (fun _ => ?_) fun _ => ?_) | (refine ZX (by rfl) ?_) | (refine scopeC ?_) | (refine ZZ rfl ?_) | (refine Zz rfl ?_) | (show NUMN _ _; refine ZY (by ((repeat first | apply Z1 | apply Z2 | apply Z3 | apply Z4); first | assumption | rfl)) ?_) | fail)))
  refine ⟨rfl, none, 9, 0, 1, _, B + 6, gl, ?_⟩
  (repeat' ((conv => whnf); (first | (refine AT.of rfl ?_) | (refine ZA (by omega) ?_) | (refine ZB (by omega) ?_) | (refine ZC (fun _ => ?_) fun _ => ?_) | (refine ZD (by omega) ?_) | (refine ZE (by omega) ?_) | (refine ZF (fun _ => ?_) fun _ => ?_) | (refine ZG (by first | rfl | assumption) ?_) | (refine ZH (by first | decide | assumption) ?_) | (refine ZI (fun _ => ?_) fun _ => ?_) | (refine ZJ (by omega) ?_) | (refine ZK (by first | (apply u8_in; omega) | (apply i32_in; omega) | (apply u32_in; omega)) ?_) | (refine ZL (by omega) ?_) | (refine ZM (by omega) ?_) | (refine ZN (by omega) ?_) | ((first | (show GETN _ _ _; apply ZO) | (show GETM _ _ _; apply ZP) | (show SETN _ _ _ _ _ _; apply ZQ) | (show LOOKN _ _ _ _ _ _; apply ZR (QV.load rfl ?g ?hl)) | (show LOOKN _ _ _ _ _ _; apply ZR (QV.loadA rfl ?g ?hl ?ho))); (case g => ((repeat first | refine Z5 ?_ | refine Z6 (by omega) ?_ | refine Z7 (by ((repeat first | apply Z1 | apply Z2 | apply Z3 | apply Z4); first | assumption | rfl)) (by omega) ?_ | refine Z8 (by assumption) (by omega) ?_); first | assumption | exact Z9 (by omega) | exact Z0 (by ((repeat first | apply Z1 | apply Z2 | apply Z3 | apply Z4); first | assumption | rfl)) (by omega))); (try (case hl => rfl)); (try (case ho => first | rfl | (first | decide | (simp; done) | (simp; omega) | exact Nat.le_of_ble_eq_true rfl)))) | (show NEWN _ _; refine ZS (by ((repeat first | apply Z1 | apply Z2 | apply Z3 | apply Z4); first | assumption | rfl)) ?_) | (show DOESN _ _; refine ZT (by first | rfl | omega | (simp; done) | (simp; omega)) ?_) | (refine ZU (by assumption) ?_) | (refine ZV (by assumption) ?_) | (refine ZW (fun _ => ?_) fun _ => ?_) | (refine ZX (by rfl) ?_) | (refine scopeC ?_) | (refine ZZ rfl ?_) | (refine Zz rfl ?_) | (show NUMN _ _; refine ZY (by ((repeat first | apply Z1 | apply Z2 | apply Z3 | apply Z4); first | assumption | rfl)) ?_) | fail)))
  generalize hh : Heap.set (Heap.set h _ _) _ _ = h1
  have u1 : Upd (fun i => i = B + 7 ∨ i = B + 4) h h1 := by rw [← hh]; exact ((Upd.refl _ _).set (.inl (.inl rfl))).set (.inl (.inr rfl))
  have gl1 : h1.get (B + 7) = some (.loop .busy none 9 0 1 (envL 25 (rho s B)) (B + 6)) := by rw [← hh]; ((repeat first | refine Z5 ?_ | refine Z6 (by omega) ?_ | refine Z7 (by ((repeat first | apply Z1 | apply Z2 | apply Z3 | apply Z4); first | assumption | rfl)) (by omega) ?_ | refine Z8 (by assumption) (by omega) ?_); first | assumption | exact Z9 (by omega) | exact Z0 (by ((repeat first | apply Z1 | apply Z2 | apply Z3 | apply Z4); first | assumption | rfl)) (by omega))
  have gn1 : h1.get (B + 4) = some (.cells [.int .i64 ((n + 1 : Nat) : Int)] true none) := by rw [← hh]; exact Z9 rfl
  have n1 : h1.next = h.next := by rw [← hh]; ((repeat first | apply Z1 | apply Z2 | apply Z3 | apply Z4); first | assumption | rfl)
  have xx : Exd h₀ h1 := by rw [← hh]; (repeat' first | exact Exd.refl _ | assumption | refine Exd.new ?_ | refine Exd.set ?_ (by omega) | refine Exd.kill ?_ (by omega))
  clear hh
  refine Za (rd_cal (n := n + 1) (b := B + 3) (j := j) hl ⟨by omega, by omega⟩ (gj.upds (by omega) u1 (fun i e => by omega) (by omega)) (by omega) fun r j' h2 es u2 J2 => ?_)
  have x2 : Exd h₀ h2 := ⟨Nat.le_trans xx.le u2.le, fun i hi => (u2.get i (by omega) (by omega)).trans (xx.get i hi)⟩
  have l2 := u2.le
  have gl2 := u2.skip (by omega) (by omega) gl1
  have gn2 := u2.skip (by omega) (by omega) gn1
  have gd2 := u2.skip (by omega) (by omega) (u1.skip (by omega) (by omega) gd)
  have g22 := u2.skip (by omega) (by omega) (u1.skip (by omega) (by omega) g2)
  have g32 := u2.skip (by omega) (by omega) (u1.skip (by omega) (by omega) g3)
  have g42 := u2.skip (by omega) (by omega) (u1.skip (by omega) (by omega) g4)
  have g52 : h2.get (B + 5) = h.get (B + 5) := (u2.get _ (by omega) (by omega)).trans (u1.get _ (by omega) (by omega))
  cases r
  · (repeat' ((conv => whnf); (first | (refine ZA (by omega) ?_) | (refine ZB (by omega) ?_) | (refine ZC (fun _ => ?_) fun _ => ?_) | (refine ZD (by omega) ?_) | (refine ZE (by omega) ?_) | (refine ZF (fun _ => ?_) fun _ => ?_) | (refine ZG (by first | rfl | assumption) ?_) | (refine ZH (by first | decide | assumption) ?_) | (refine ZI (fun _ => ?_) fun _ => ?_) | (refine ZJ (by omega) ?_) | (refine ZK (by first | (apply u8_in; omega) | (apply i32_in; omega) | (apply u32_in; omega)) ?_) | (refine ZL (by omega) ?_) | (refine ZM (by omega) ?_) | (refine ZN (by omega) ?_) | ((first | (show GETN _ _ _; apply ZO) | (show GETM _ _ _; apply ZP) | (show SETN _ _ _ _ _ _; apply ZQ) | (show LOOKN _ _ _ _ _ _; apply ZR (QV.load rfl ?g ?hl)) | (show LOOKN _ _ _ _ _ _; apply ZR (QV.loadA rfl ?g ?hl ?ho))); (case g => ((repeat first | refine Z5 ?_ | refine Z6 (by omega) ?_ | refine Z7 (by ((repeat first | apply Z1 | apply Z2 | apply Z3 | apply Z4); first | assumption | rfl)) (by omega) ?_ | refine Z8 (by assumption) (by omega) ?_); first | assumption | exact Z9 (by omega) | exact Z0 (by ((repeat first | apply Z1 | apply Z2 | apply Z3 | apply Z4); first | assumption | rfl)) (by omega))); (try (case hl => rfl)); (try (case ho => first | rfl | (first | decide | (simp; done) | (simp; omega) | exact Nat.le_of_ble_eq_true rfl)))) | (show NEWN _ _; refine ZS (by ((repeat first | apply Z1 | apply Z2 | apply Z3 | apply Z4); first | assumption | rfl)) ?_) | (show DOESN _ _; refine ZT (by first | rfl | omega | (simp; done) | (simp; omega)) ?_) | (refine ZU (by assumption) ?_) | (refine ZV (by assumption) ?_) | (refine ZW (fun _ => ?_) fun _ => ?_) | (refine ZX (by rfl) ?_) | (refine scopeC ?_) | (refine ZZ rfl ?_) | (refine Zz rfl ?_) | (show NUMN _ _; refine ZY (by ((repeat first | apply Z1 | apply Z2 | apply Z3 | apply Z4); first | assumption | rfl)) ?_) | fail)))
    refine ⟨rfl, .busy, none, 9, 0, 1, _, B + 6, by ((repeat first | refine Z5 ?_ | refine Z6 (by omega) ?_ | refine Z7 (by ((repeat first | apply Z1 | apply Z2 | apply Z3 | apply Z4); first | assumption | rfl)) (by omega) ?_ | refine Z8 (by assumption) (by omega) ?_); first | assumption | exact Z9 (by omega) | exact Z0 (by ((repeat first | apply Z1 | apply Z2 | apply Z3 | apply Z4); first | assumption | rfl)) (by omega)), ?_⟩
    refine k0 j' _ es ⟨by (repeat' first | exact Exd.refl _ | assumption | refine Exd.new ?_ | refine Exd.set ?_ (by omega) | refine Exd.kill ?_ (by omega)), nb, by simp only [Heap.next_set]; omega, Z9 rfl, by ((repeat first | refine Z5 ?_ | refine Z6 (by omega) ?_ | refine Z7 (by ((repeat first | apply Z1 | apply Z2 | apply Z3 | apply Z4); first | assumption | rfl)) (by omega) ?_ | refine Z8 (by assumption) (by omega) ?_); first | assumption | exact Z9 (by omega) | exact Z0 (by ((repeat first | apply Z1 | apply Z2 | apply Z3 | apply Z4); first | assumption | rfl)) (by omega)), ?_, ?_, ?_⟩
    · refine Z6 (by omega) (Z6 (by omega) (Z6 (by omega) ?_))
      exact Z9 rfl
    · refine Z6 (by omega) (Z6 (by omega) ?_)
      exact Z9 rfl
    · refine Z6 (by omega) ?_
      exact Z9 rfl
  · (repeat' ((conv => whnf); (first | (refine ZA (by omega) ?_) | (refine ZB (by omega) ?_) | (refine ZC (fun _ => ?_) fun _ => ?_) | (refine ZD (by omega) ?_) | (refine ZE (by omega) ?_) | (refine ZF (fun _ => ?_) fun _ => ?_) | (refine ZG (by first | rfl | assumption) ?_) | (refine ZH (by first | decide | assumption) ?_) | (refine ZI (fun _ => ?_) fun _ => ?_) | (refine ZJ (by omega) ?_) | (refine ZK (by first | (apply u8_in; omega) | (apply i32_in; omega) | (apply u32_in; omega)) ?_) | (refine ZL (by omega) ?_) | (refine ZM (by omega) ?_) | (refine ZN (by omega) ?_) | ((first | (show GETN _ _ _; apply ZO) | (show GETM _ _ _; apply ZP) | (show SETN _ _ _ _ _ _; apply ZQ) | (show LOOKN _ _ _ _ _ _; apply ZR (QV.load rfl ?g ?hl)) | (show LOOKN _ _ _ _ _ _; apply ZR (QV.loadA rfl ?g ?hl ?ho))); (case g => ((repeat first | refine Z5 ?_ | refine Z6 (by omega) ?_ | refine Z7 (by ((repeat first | apply Z1 | apply Z2 | apply Z3 | apply Z4); first | assumption | rfl)) (by omega) ?_ | refine Z8 (by assumption) (by omega) ?_); first | assumption | exact Z9 (by omega) | exact Z0 (by ((repeat first | apply Z1 | apply Z2 | apply Z3 | apply Z4); first | assumption | rfl)) (by omega))); (try (case hl => rfl)); (try (case ho => first | rfl | (first | decide | (simp; done) | (simp; omega) | exact Nat.le_of_ble_eq_true rfl)))) | (show NEWN _ _; refine ZS (by ((repeat first | apply Z1 | apply Z2 | apply Z3 | apply Z4); first | assumption | rfl)) ?_) | (show DOESN _ _; refine ZT (by first | rfl | omega | (simp; done) | (simp; omega)) ?_) | (refine ZU (by assumption) ?_) | (refine ZV (by assumption) ?_) | (refine ZW (fun _ => ?_) fun _ => ?_) | (refine ZX (by rfl) ?_) | (refine scopeC ?_) | (refine ZZ rfl ?_) | (refine Zz rfl ?_) | (show NUMN _ _; refine ZY (by ((repeat first | apply Z1 | apply Z2 | apply Z3 | apply Z4); first | assumption | rfl)) ?_) | fail)))
    refine ⟨rfl, .busy, none, 9, 0, 1, _, B + 6, gl2, ?_⟩
    refine k1 j' _ es ⟨by (repeat' first | exact Exd.refl _ | assumption | refine Exd.new ?_ | refine Exd.set ?_ (by omega) | refine Exd.kill ?_ (by omega)), nb, by simp only [Heap.next_set]; omega, Z9 rfl, by ((repeat first | refine Z5 ?_ | refine Z6 (by omega) ?_ | refine Z7 (by ((repeat first | apply Z1 | apply Z2 | apply Z3 | apply Z4); first | assumption | rfl)) (by omega) ?_ | refine Z8 (by assumption) (by omega) ?_); first | assumption | exact Z9 (by omega) | exact Z0 (by ((repeat first | apply Z1 | apply Z2 | apply Z3 | apply Z4); first | assumption | rfl)) (by omega)), by ((repeat first | refine Z5 ?_ | refine Z6 (by omega) ?_ | refine Z7 (by ((repeat first | apply Z1 | apply Z2 | apply Z3 | apply Z4); first | assumption | rfl)) (by omega) ?_ | refine Z8 (by assumption) (by omega) ?_); first | assumption | exact Z9 (by omega) | exact Z0 (by ((repeat first | apply Z1 | apply Z2 | apply Z3 | apply Z4); first | assumption | rfl)) (by omega)), by ((repeat first | refine Z5 ?_ | refine Z6 (by omega) ?_ | refine Z7 (by ((repeat first | apply Z1 | apply Z2 | apply Z3 | apply Z4); first | assumption | rfl)) (by omega) ?_ | refine Z8 (by assumption) (by omega) ?_); first | assumption | exact Z9 (by omega) | exact Z0 (by ((repeat first | apply Z1 | apply Z2 | apply Z3 | apply Z4); first | assumption | rfl)) (by omega)), by ((repeat first | refine Z5 ?_ | refine Z6 (by omega) ?_ | refine Z7 (by ((repeat first | apply Z1 | apply Z2 | apply Z3 | apply Z4); first | assumption | rfl)) (by omega) ?_ | refine Z8 (by assumption) (by omega) ?_); first | assumption | exact Z9 (by omega) | exact Z0 (by ((repeat first | apply Z1 | apply Z2 | apply Z3 | apply Z4); first | assumption | rfl)) (by omega)), ?_, by ((repeat first | refine Z5 ?_ | refine Z6 (by omega) ?_ | refine Z7 (by ((repeat first | apply Z1 | apply Z2 | apply Z3 | apply Z4); first | assumption | rfl)) (by omega) ?_ | refine Z8 (by assumption) (by omega) ?_); first | assumption | exact Z9 (by omega) | exact Z0 (by ((repeat first | apply Z1 | apply Z2 | apply Z3 | apply Z4); first | assumption | rfl)) (by omega))⟩ ?_
    · exact J2.upds (by omega) ((Upd.refl (· = B + 7) _).set (.inl rfl)) (fun i e => by have : i = B + 7 := e; omega) (by show ¬ B + 3 = B + 7; omega)
    · exact Z6 (by omega) g52
end Go.Proofs.YthdeoeokjmmnbaaDoor.Cm
