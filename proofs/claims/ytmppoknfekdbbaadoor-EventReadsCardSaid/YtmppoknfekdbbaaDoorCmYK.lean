/-
  The clean machine, part YK: words between blanks; ranging over a string.
-/
import Derived.Test.YtmppoknfekdbbaaDoorCmYI
import Derived.Lib.TrimUEq
namespace Go.Proofs.YtmppoknfekdbbaaDoor.Cm
open Go.RowKit

/-- Put ahead of the first word. -/
def consW (p : List UInt8) : List (List UInt8) → List (List UInt8)
  | [] => [p]
  | w :: ws => (p ++ w) :: ws
/-- The words between blanks. -/
def splitB : List UInt8 → List (List UInt8)
  | [] => [[]]
  | c :: s => if c = 32 then [] :: splitB s else consW [c] (splitB s)
theorem splitB_ne : ∀ s, splitB s ≠ []
  | [] => by simp [splitB]
  | c :: s => by
    unfold splitB
    split
    · simp
    · have := splitB_ne s
      cases h : splitB s with
      | nil => exact (this h).elim
      | cons => simp [consW]
theorem consW_nil {l : List (List UInt8)} (h : l ≠ []) : consW [] l = l := by
  cases l with
  | nil => exact (h rfl).elim
  | cons w ws => simp [consW]
theorem consW_consW {p q : List UInt8} {l : List (List UInt8)} (h : l ≠ []) : consW p (consW q l) = consW (p ++ q) l := by
  cases l with
  | nil => exact (h rfl).elim
  | cons w ws => simp [consW]
/-- No blank: one word more of it. -/
theorem splitB_app : ∀ {p s : List UInt8}, (∀ c ∈ p, c ≠ 32) → splitB (p ++ s) = consW p (splitB s)
  | [], s, _ => by rw [List.nil_append, consW_nil (splitB_ne s)]
  | c :: p, s, h => by
    rw [List.cons_append, splitB, if_neg (h c (List.mem_cons_self ..)), splitB_app fun x hx => h x (List.mem_cons_of_mem _ hx), consW_consW (splitB_ne s)]
    rfl

/-- How far the words are told: those behind, where the one begins, where we are. -/
structure Cut (s : List UInt8) (ws : List (List UInt8)) (fr i : Nat) : Prop where
  h1 : fr ≤ i
  h2 : i ≤ s.length
  eq : splitB s = ws ++ consW ((s.drop fr).take (i - fr)) (splitB (s.drop i))
  len : ws.length ≤ fr
theorem Cut.zero {s : List UInt8} : Cut s [] 0 0 := ⟨Nat.le_refl _, Nat.zero_le _, by simp [consW_nil (splitB_ne s)], Nat.le_refl _⟩
theorem Cut.blank {s : List UInt8} {ws : List (List UInt8)} {fr i : Nat} (c : Cut s ws fr i) (hi : i < s.length) (h : s[i] = 32) : Cut s (ws ++ [(s.drop fr).take (i - fr)]) (i + 1) (i + 1) := by
  refine ⟨Nat.le_refl _, hi, ?_, ?_⟩
  · rw [c.eq, List.drop_eq_getElem_cons hi, splitB, if_pos h]
    rw [Nat.sub_self, List.take_zero, consW_nil (splitB_ne _)]
    simp [consW]
  · have := c.len; have := c.h1; simp; omega
theorem Cut.go {s : List UInt8} {ws : List (List UInt8)} {fr i w : Nat} (c : Cut s ws fr i) (hw : i + w ≤ s.length) (h : ∀ j (hj : j < s.length), i ≤ j → j < i + w → s[j] ≠ 32) : Cut s ws fr (i + w) := by
  have h1 := c.h1
  refine ⟨by omega, hw, ?_, c.len⟩
  have e : s.drop i = (s.drop i).take w ++ s.drop (i + w) := by rw [← List.drop_drop, List.take_append_drop]
  rw [c.eq, e, splitB_app, consW_consW (splitB_ne _)]
  · congr 2
    rw [show i + w - fr = (i - fr) + w by omega, List.take_add, List.drop_drop, show fr + (i - fr) = i by omega]
  · intro x hx
    obtain ⟨j, hj, rfl⟩ := List.getElem_of_mem hx
    simp only [List.length_take, List.length_drop] at hj
    rw [List.getElem_take, List.getElem_drop]
    exact h (i + j) (by omega) (by omega) (by omega)
theorem Cut.done {s : List UInt8} {ws : List (List UInt8)} {fr : Nat} (c : Cut s ws fr s.length) : splitB s = ws ++ [(s.drop fr).take (s.length - fr)] := by
  rw [c.eq, List.drop_length]
  simp [splitB, consW]

theorem get_toNat {s : List UInt8} {j : Nat} (h : j < s.length) : (s.getD j 0).toNat = s[j].toNat := by simp [List.getD, h]
theorem u8_32 {b : UInt8} : b = 32 ↔ b.toNat = 32 := by
  rw [← UInt8.toNat_inj]; exact Iff.rfl

/-- What is read next of a string, as to blanks. -/
theorem dec_blank {s : List UInt8} {i c w : Nat} (h : i < s.length) (e : Utf8.decode ⟨s.toArray⟩ i = (c, w)) : (s[i] = 32 → c = 32 ∧ w = 1) ∧ (s[i] ≠ 32 → c ≠ 32) ∧ 1 ≤ w ∧ i + w ≤ s.length ∧ ∀ j (hj : j < s.length), i < j → j < i + w → s[j] ≠ 32 := by
  rw [Lib.decode_N] at e
  simp only at e
  have g0 := get_toNat h
  have far : ∀ j (hj : j < s.length), s[j] ≠ 32 ↔ (s.getD j 0).toNat ≠ 32 := fun j hj => by rw [get_toNat hj, Ne, u8_32]
  have near : ∀ k, (∀ q, 1 ≤ q → q < k → (s.getD (i + q) 0).toNat / 64 = 2) → ∀ j (hj : j < s.length), i < j → j < i + k → s[j] ≠ 32 := by
    intro k hk j hj h1 h2
    have := hk (j - i) (by omega) (by omega)
    rw [show i + (j - i) = j by omega] at this
    rw [far j hj]; omega
  have up : ∀ {q}, q < s.length - i → i + q < s.length := by intros; omega
  rw [Ne, u8_32, ← g0]
  unfold Lib.decodeN at e
  generalize hb0 : (s.getD i 0).toNat = b0 at *
  have one : ∀ c', ((c', 1) : Nat × Nat) = (c, w) → c' ≠ 32 ∨ b0 = 32 → (b0 = 32 → c' = 32) → (b0 = 32 → c = 32 ∧ w = 1) ∧ (b0 ≠ 32 → c ≠ 32) ∧ 1 ≤ w ∧ i + w ≤ s.length ∧ ∀ j (hj : j < s.length), i < j → j < i + w → s[j] ≠ 32 := by
    intro c' ee h1 h2
    simp only [Prod.mk.injEq] at ee
    obtain ⟨rfl, rfl⟩ := ee
    exact ⟨fun h => ⟨h2 h, rfl⟩, fun h => h1.resolve_right h, Nat.le_refl _, by omega, fun j hj a b => by omega⟩
  split at e
  · exact one _ e (by omega) (by omega)
  · split at e
    · next h6 =>
      split at e
      · simp only [Prod.mk.injEq] at e
        obtain ⟨rfl, rfl⟩ := e
        refine ⟨by omega, by omega, by omega, by omega, near 2 fun q a b => ?_⟩
        obtain rfl : q = 1 := by omega
        exact h6.2.2
      · exact one _ e (by omega) (by omega)
    · split at e
      · next h6 =>
        split at e
        · simp only [Prod.mk.injEq] at e
          obtain ⟨rfl, rfl⟩ := e
          refine ⟨by omega, by omega, by omega, by omega, near 3 fun q a b => ?_⟩
          rcases (show q = 1 ∨ q = 2 by omega) with rfl | rfl
          · exact h6.2.1.2
          · exact h6.2.2.2
        · exact one _ e (by omega) (by omega)
      · split at e
        · next h6 =>
          split at e
          · simp only [Prod.mk.injEq] at e
            obtain ⟨rfl, rfl⟩ := e
            refine ⟨by omega, by omega, by omega, by omega, near 4 fun q a b => ?_⟩
            rcases (show q = 1 ∨ q = 2 ∨ q = 3 by omega) with rfl | rfl | rfl
            · exact h6.2.1.2
            · exact h6.2.2.1.2
            · exact h6.2.2.2.2
          · exact one _ e (by omega) (by omega)
        · exact one _ e (by omega) (by omega)

theorem OPN.range {N : Nat} {ρ : Env} {h : Heap} {X : CX} {s : List UInt8} {n : Nat} {K : CVal → Heap → Prop} (hx : X.on N ρ = .str s) (hn : h.next = n) (k : K (.ptr n 0) (h.new (.iter s 0))) : OPN N (.rangeStr X) ρ h K :=
  .mk (v := .ptr n 0) (h' := h.new (.iter s 0)) (by simp only [cop, CX.on_ev, hx, hn]) k
theorem OPN.next1 {N : Nat} {ρ : Env} {h : Heap} {X : CX} {s : List UInt8} {i pos : Nat} {K : CVal → Heap → Prop} (hx : X.on N ρ = .ptr i 0) (g : h.get i = some (.iter s pos)) (hp : pos < s.length)
    (k : ∀ c w, Utf8.decode ⟨s.toArray⟩ pos = (c, w) → K (.tuple [.bool true, .int .i64 pos, .int .i32 c]) (h.set i (.iter s (pos + w)))) : OPN N (.nextStr X) ρ h K := by
  cases hd : Utf8.decode ⟨s.toArray⟩ pos with
  | mk c w =>
    refine .mk ?_ (k c w hd)
    simp only [cop, CX.on_ev, hx, g, if_pos hp, hd]
theorem OPN.next0 {N : Nat} {ρ : Env} {h : Heap} {X : CX} {s : List UInt8} {i pos : Nat} {K : CVal → Heap → Prop} (hx : X.on N ρ = .ptr i 0) (g : h.get i = some (.iter s pos)) (hp : s.length ≤ pos) (k : K (.tuple [.bool false]) h) : OPN N (.nextStr X) ρ h K := by
  refine .mk ?_ k
  simp only [cop, CX.on_ev, hx, g, if_neg (Nat.not_lt.2 hp)]
end Go.Proofs.YtmppoknfekdbbaaDoor.Cm
