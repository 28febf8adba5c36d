/-
  Tokens: the lexer, a source and what was read of it.
-/
import Derived.Test.YtldhkhgbjomjcaaDoorCmKC
import Derived.Test.YtldhkhgbjomjcaaDoorCmZ
namespace Go.Proofs.YtldhkhgbjomjcaaDoor.Cm
open Go.RowKit Go.IntWalk
attribute [local irreducible] Heap.set Heap.new Heap.kill Heap.get Heap.room Cal WP

theorem Own.set {h₀ h : Heap} {v : CVal} {sz m b : Nat} {cs : List CVal} {o : CObj} (O : Own h₀ h v sz m cs) (ne : vne b v) : Own h₀ (h.set b o) v sz m cs :=
  ⟨O.1.frame fun j hj => by
    rw [Heap.get_set_ne]
    intro e; subst e; exact hj ne, fun j o l c e => by rw [Heap.next_set]; exact O.2 j o l c e⟩
theorem cellsT_snoc (E : List Tok) (t : Tok) : cellsT (E ++ [t]) = cellsT E ++ t.cs := by simp [cellsT]

/-- A lexer at b: so far, of that source; its words at m; its tokens. -/
structure LS (h₀ h : Heap) (b m : Nat) (s : List UInt8) (a : Nat) (out : List Tok) : Prop where
  x : Exd h₀ h
  hb : h₀.next ≤ b
  b1 : b < h.next
  m1 : m < h.next
  bm : m ≠ b
  ob : ∃ v, h.get b = some (.cells [.str s, .int .i64 a, .map m, v] true none) ∧ Own h₀ h v 4 out.length (cellsT out) ∧ vne b v ∧ vne m v
  gm : ∃ es, h.get m = some (.map es true) ∧ BoolMap es ∧ ∀ y, lookB y es = decide (y ∈ allWords)
theorem LS.exd {h₀ h h' : Heap} {b m a : Nat} {s : List UInt8} {out : List Tok} (L : LS h₀ h b m s a out) (e : Exd h h') : LS h₀ h' b m s a out := by
  obtain ⟨x, hb, b1, m1, bm, ⟨v, g, O, n1, n2⟩, es, gm, bo, lk⟩ := L
  exact ⟨x.trans e, hb, Nat.lt_of_lt_of_le b1 e.le, Nat.lt_of_lt_of_le m1 e.le, bm, ⟨v, (e.get b b1).trans g, O.exd e, n1, n2⟩, es, (e.get m m1).trans gm, bo, lk⟩
theorem LS.go {h₀ h : Heap} {b m a a' : Nat} {s : List UInt8} {out : List Tok} {v : CVal} (L : LS h₀ h b m s a out) (g : h.get b = some (.cells [.str s, .int .i64 a, .map m, v] true none)) : LS h₀ (h.set b (.cells [.str s, .int .i64 a', .map m, v] true none)) b m s a' out := by
  obtain ⟨x, hb, b1, m1, bm, ⟨v', g', O, n1, n2⟩, es, gm, bo, lk⟩ := L
  obtain rfl : v' = v := by rw [g] at g'; simpa using g'.symm
  exact ⟨Exd.set x hb, hb, by rw [Heap.next_set]; exact b1, by rw [Heap.next_set]; exact m1, bm, ⟨v', Heap.get_set_same _ _ _, O.set n1, n1, n2⟩, es, by rw [Heap.get_set_ne _ _ _ _ bm]; exact gm, bo, lk⟩

set_option maxHeartbeats 2000000 in
theorem add_cal {h₀ h : Heap} {b m a n : Nat} {s t : List UInt8} {out : List Tok} {k z : Int} {Q : CVal → Heap → Prop} (L : LS h₀ h b m s a out) (ho : out.length ≤ 100000) (ha : a + n ≤ 100000)
    (q : ∀ h', LS h₀ h' b m s (a + n) (out ++ [⟨k, a, z, t⟩]) → Q (.tuple []) h') : Cal tt 17 [.ptr b 0, .agg [.int .i64 k, .int .i64 0, .int .i64 z, .str t], .int .i64 n] h Q := by
  refine Cal.run rfl rfl rfl rfl ?_
  obtain ⟨x, hb, b1, m1, bm, ⟨v, g, O, n1, n2⟩, es, gm, bo, lk⟩ := L
  have x' := x.le
  generalize hB : h.new (.cells [.int .i64 k, .int .i64 a, .int .i64 z, .str t] true none) = hA
  have step : ∀ hc, hc = (((h.new (.cells [.int .i64 k, .int .i64 0, .int .i64 z, .str t] true none)).set h.next (.cells [.int .i64 k, .int .i64 a, .int .i64 z, .str t] true none)).new (.cells [.int .i64 k, .int .i64 a, .int .i64 z, .str t] true none)) →
      ∃ h2, appendC hc 4 40 v (.slice (h.next + 1) 0 1 1) = some (.slice (h.next + 2) 0 (out.length + 1) (out.length + 1), h2) ∧ Exd h₀ h2 ∧ Own h₀ h2 (.slice (h.next + 2) 0 (out.length + 1) (out.length + 1)) 4 (out.length + 1) (cellsT (out ++ [⟨k, a, z, t⟩])) ∧ h2.next = h.next + 3 ∧ h2.get b = some (.cells [.str s, .int .i64 a, .map m, v] true none) ∧ h2.get m = some (.map es true) := by
    intro hc e
    have nc : hc.next = h.next + 2 := by rw [e]; ((repeat first | apply Z1 | apply Z2 | apply Z3 | apply Z4); first | assumption | rfl)
    have xc : Exd h hc := by rw [e]; (repeat' first | exact Exd.refl _ | assumption | refine Exd.new ?_ | refine Exd.set ?_ (by omega) | refine Exd.kill ?_ (by omega))
    have gc : hc.get (h.next + 1) = some (.cells (Tok.mk k a z t).cs true none) := by rw [e]; ((repeat first | refine Z5 ?_ | refine Z6 (by omega) ?_ | refine Z7 (by ((repeat first | apply Z1 | apply Z2 | apply Z3 | apply Z4); first | assumption | rfl)) (by omega) ?_ | refine Z8 (by assumption) (by omega) ?_); first | assumption | exact Z9 (by omega) | exact Z0 (by ((repeat first | apply Z1 | apply Z2 | apply Z3 | apply Z4); first | assumption | rfl)) (by omega))
    obtain ⟨h2, ea, x2, O2, nn, _, fr⟩ := O.push (bytes := 40) x xc (srcC_one (n := 1) gc rfl (by omega)) (by omega) rfl (by omega)
    rw [nc] at ea O2 nn
    refine ⟨h2, ea, x2, by rw [cellsT_snoc]; exact O2, nn, ?_, ?_⟩
    · rw [fr b (by omega) n1, xc.get b b1]; exact g
    · rw [fr m (by omega) n2, xc.get m m1]; exact gm
  rcases O.cases with ⟨rfl, _⟩ | ⟨i', rfl, _⟩
  all_goals
    (repeat' ((conv => whnf); (first | (refine ZA (by omega) ?_) | (refine ZB (by omega) ?_) | (refine ZC (fun _ => ?_) fun _ => ?_) | (refine ZD (by omega) ?_) | (refine ZE (by omega) ?_) | (refine ZF (fun _ => ?_) fun _ => ?_) | (refine ZG (by first | rfl | assumption) ?_) | (refine ZH (by first | decide | assumption) ?_) | (refine ZI (fun _ => ?_) fun _ => ?_) | (refine ZJ (by omega) ?_) | (refine ZK (by first | (apply u8_in; omega) | (apply i32_in; omega) | (apply u32_in; omega)) ?_) | (refine ZL (by omega) ?_) | (refine ZM (by omega) ?_) | (refine ZN (by omega) ?_) | ((first | (show GETN _ _ _; apply ZO) | (show GETM _ _ _; apply ZP) | (show SETN _ _ _ _ _ _; apply ZQ) | (show LOOKN _ _ _ _ _ _; apply ZR (QV.load rfl ?g ?hl)) | (show LOOKN _ _ _ _ _ _; apply ZR (QV.loadA rfl ?g ?hl ?ho))); (case g => ((repeat first | refine Z5 ?_ | refine Z6 (by omega) ?_ | refine Z7 (by ((repeat first | apply Z1 | apply Z2 | apply Z3 | apply Z4); first | assumption | rfl)) (by omega) ?_ | refine Z8 (by assumption) (by omega) ?_); first | assumption | exact Z9 (by omega) | exact Z0 (by ((repeat first | apply Z1 | apply Z2 | apply Z3 | apply Z4); first | assumption | rfl)) (by omega))); (try (case hl => rfl)); (try (case ho => first | rfl | (first | decide | (simp; done) | (simp; omega) | exact Nat.le_of_ble_eq_true rfl)))) | (show NEWN _ _; refine ZS (by ((repeat first | apply Z1 | apply Z2 | apply Z3 | apply Z4); first | assumption | rfl)) ?_) | (show DOESN _ _; refine ZT (by first | rfl | omega | (simp; done) | (simp; omega)) ?_) | (refine ZU (by assumption) ?_) | (refine ZV (by assumption) ?_) | (refine ZW (fun _ => ?_) fun _ => ?_) | (refine ZX (by rfl) ?_) | (refine scopeC ?_) | (refine ZZ rfl ?_) | (refine Zz rfl ?_) | (show NUMN _ _; refine ZY (by ((repeat first | apply Z1 | apply Z2 | apply Z3 | apply Z4); first | assumption | rfl)) ?_) | fail)))
    obtain ⟨h2, ea, x2, O2, nn, g2, gm2⟩ := step _ rfl
    refine ZX ea ?_
    clear step
    (repeat' ((conv => whnf); (first | (refine ZA (by omega) ?_) | (refine ZB (by omega) ?_) | (refine ZC (fun _ => ?_) fun _ => ?_) | (refine ZD (by omega) ?_) | (refine ZE (by omega) ?_) | (refine ZF (fun _ => ?_) fun _ => ?_) | (refine ZG (by first | rfl | assumption) ?_) | (refine ZH (by first | decide | assumption) ?_) | (refine ZI (fun _ => ?_) fun _ => ?_) | (refine ZJ (by omega) ?_) | (refine ZK (by first | (apply u8_in; omega) | (apply i32_in; omega) | (apply u32_in; omega)) ?_) | (refine ZL (by omega) ?_) | (refine ZM (by omega) ?_) | (refine ZN (by omega) ?_) | ((first | (show GETN _ _ _; apply ZO) | (show GETM _ _ _; apply ZP) | (show SETN _ _ _ _ _ _; apply ZQ) | (show LOOKN _ _ _ _ _ _; apply ZR (QV.load rfl ?g ?hl)) | (show LOOKN _ _ _ _ _ _; apply ZR (QV.loadA rfl ?g ?hl ?ho))); (case g => ((repeat first | refine Z5 ?_ | refine Z6 (by omega) ?_ | refine Z7 (by ((repeat first | apply Z1 | apply Z2 | apply Z3 | apply Z4); first | assumption | rfl)) (by omega) ?_ | refine Z8 (by assumption) (by omega) ?_); first | assumption | exact Z9 (by omega) | exact Z0 (by ((repeat first | apply Z1 | apply Z2 | apply Z3 | apply Z4); first | assumption | rfl)) (by omega))); (try (case hl => rfl)); (try (case ho => first | rfl | (first | decide | (simp; done) | (simp; omega) | exact Nat.le_of_ble_eq_true rfl)))) | (show NEWN _ _; refine ZS (by ((repeat first | apply Z1 | apply Z2 | apply Z3 | apply Z4); first | assumption | rfl)) ?_) | (show DOESN _ _; refine ZT (by first | rfl | omega | (simp; done) | (simp; omega)) ?_) | (refine ZU (by assumption) ?_) | (refine ZV (by assumption) ?_) | (refine ZW (fun _ => ?_) fun _ => ?_) | (refine ZX (by rfl) ?_) | (refine scopeC ?_) | (refine ZZ rfl ?_) | (refine Zz rfl ?_) | (show NUMN _ _; refine ZY (by ((repeat first | apply Z1 | apply Z2 | apply Z3 | apply Z4); first | assumption | rfl)) ?_) | fail)))
    have L2 : LS h₀ (h2.set b (.cells [.str s, .int .i64 a, .map m, .slice (h.next + 2) 0 (out.length + 1) (out.length + 1)] true none)) b m s a (out ++ [⟨k, a, z, t⟩]) :=
      ⟨Exd.set x2 hb, hb, by rw [Heap.next_set]; omega, by rw [Heap.next_set]; omega, bm, ⟨_, Heap.get_set_same _ _ _, by rw [List.length_append]; exact O2.set (fun o l c e => by simp only [CVal.slice.injEq] at e; omega), fun o l c e => by simp only [CVal.slice.injEq] at e; omega, fun o l c e => by simp only [CVal.slice.injEq] at e; omega⟩, es, by rw [Heap.get_set_ne _ _ _ _ bm]; exact gm2, bo, lk⟩
    have e := q _ (L2.go (a' := a + n) (Heap.get_set_same _ _ _))
    rw [Int.natCast_add] at e
    exact e
end Go.Proofs.YtldhkhgbjomjcaaDoor.Cm
