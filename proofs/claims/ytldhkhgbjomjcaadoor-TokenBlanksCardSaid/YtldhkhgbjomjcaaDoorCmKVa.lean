/-
  Rows of bytes put behind one another.
-/
import Derived.Test.YtldhkhgbjomjcaaDoorCmKI
import Derived.Test.YtldhkhgbjomjcaaDoorCmKM
import Derived.Test.YtldhkhgbjomjcaaDoorCmZ
namespace Go.Proofs.YtldhkhgbjomjcaaDoor.Cm
open Go.RowKit Go.IntWalk
attribute [local irreducible] Heap.set Heap.new Heap.kill Heap.get Heap.room Cal WP

theorem RBy.src {h : Heap} {v : CVal} {s : List UInt8} (r : RBy h v s) : srcC h 1 v = some (s.length, cellsB s) := by
  rcases r with ⟨rfl, rfl⟩ | ⟨i, o, c, rfl, _, _, r⟩
  · rfl
  · by_cases h0 : s.length = 0
    · obtain rfl : s = [] := by simpa using h0
      rfl
    · rcases r with rfl | ⟨cs, wr, opn, g, a⟩
      · exact absurd rfl h0
      · simp only [srcC, if_neg h0, g, Nat.mul_one, a]
        rw [if_pos (by rw [List.length_map]), cellsB]
theorem Own.pushB {h₀ h : Heap} {i : Nat} {s0 s : List UInt8} {src : CVal} (O : Own h₀ h (.slice i 0 s0.length s0.length) 1 s0.length (cellsB s0)) (e : Exd h₀ h) (r : RBy h src s) (hb : s0.length + s.length ≤ 1000000000) :
    ∃ i' h2, appendC h 1 1 (.slice i 0 s0.length s0.length) src = some (.slice i' 0 (s0 ++ s).length (s0 ++ s).length, h2) ∧ Exd h₀ h2 ∧ Own h₀ h2 (.slice i' 0 (s0 ++ s).length (s0 ++ s).length) 1 (s0 ++ s).length (cellsB (s0 ++ s)) := by
  have hs := r.src
  by_cases h0 : s.length = 0
  · obtain rfl : s = [] := by simpa using h0
    rw [List.append_nil]
    exact ⟨i, h, appendC_none hs (.inr ⟨_, _, _, _, rfl⟩), e, O⟩
  · obtain ⟨h2, ea, x2, O2, _⟩ := O.push (bytes := 1) e (Exd.refl _) hs (by omega) (cellsB_one _) (by omega)
    refine ⟨h.next, h2, by rw [List.length_append]; exact ea, x2, ?_⟩
    rw [List.length_append, show cellsB (s0 ++ s) = cellsB s0 ++ cellsB s by simp [cellsB]]
    exact O2
theorem Own.bytes {h₀ h : Heap} {i : Nat} {s : List UInt8} (O : Own h₀ h (.slice i 0 s.length s.length) 1 s.length (cellsB s)) : RBy h (.slice i 0 s.length s.length) s := by
  obtain ⟨wr, opn, g⟩ := O.get
  refine .inr ⟨i, 0, s.length, rfl, Nat.le_refl _, (O.2 _ _ _ _ rfl).2, .inr ⟨_, wr, opn, g, ?_⟩⟩
  rw [List.drop_zero, show s.length = (cellsB s).length from (cellsB_length s).symm, List.take_length]; rfl
end Go.Proofs.YtldhkhgbjomjcaaDoor.Cm
