/-
  Instructions: the tables, and what is asked of them.
-/
import Derived.Test.YtaipbioapbgcnaaDoorCmE
namespace Go.Proofs.YtaipbioapbgcnaaDoor.Cm

def opNames : List (List UInt8) := [[], [110, 111, 112], [112, 117, 115, 104], [108, 111, 97, 100], [115, 116, 111, 114, 101], [108, 111, 97, 100, 97, 116], [115, 116, 111, 114, 101, 97, 116], [108, 111, 99, 97, 108], [115, 101, 116, 108, 111, 99, 97, 108], [97, 100, 100], [115, 117, 98], [109, 117, 108], [100, 105, 118], [109, 111, 100], [110, 101, 103], [101, 113], [110, 101], [108, 116], [108, 101], [103, 116], [103, 101], [97, 110, 100], [111, 114], [110, 111, 116], [106, 117, 109, 112], [106, 117, 109, 112, 122, 101, 114, 111], [99, 97, 108, 108], [114, 101, 116], [102, 111, 114, 107], [106, 111, 105, 110], [112], [118], [101, 110, 116, 101, 114], [97, 119, 97, 105, 116], [108, 101, 97, 118, 101], [114, 101, 113, 117, 101, 115, 116], [114, 101, 108, 101, 97, 115, 101], [114, 101, 97, 100], [119, 114, 105, 116, 101]]
def opOperands : List Int := [0, 0, 1, 1, 1, 1, 1, 1, 1, 0, 0, 0, 0, 0, 0, 0, 0, 0, 0, 0, 0, 0, 0, 0, 1, 1, 1, 0, 1, 0, 1, 1, 1, 2, 1, 1, 1, 0, 0]
def opPops : List Int := [0, 0, 0, 0, 1, 1, 2, 0, 1, 2, 2, 2, 2, 2, 1, 2, 2, 2, 2, 2, 2, 2, 2, 1, 0, 1, 0, 0, 0, 0, 0, 0, 0, 1, 0, 0, 0, 0, 1]
def opPushes : List Int := [0, 0, 1, 1, 0, 1, 0, 1, 0, 1, 1, 1, 1, 1, 1, 1, 1, 1, 1, 1, 1, 1, 1, 1, 0, 0, 0, 0, 0, 0, 0, 0, 0, 0, 0, 0, 0, 1, 0]

def isOp (op : Int) : Prop := 0 < op ∧ op < 39
instance (op : Int) : Decidable (isOp op) := by unfold isOp; infer_instance
def nm (op : Int) : List UInt8 := if isOp op then opNames.getD op.toNat [] else []
def tabOf (l : List Int) (op : Int) : Int := if isOp op then l.getD op.toNat 0 else 0

theorem isOp_cases {op : Int} (h : isOp op) : op = 1 ∨ op = 2 ∨ op = 3 ∨ op = 4 ∨ op = 5 ∨ op = 6 ∨ op = 7 ∨ op = 8 ∨ op = 9 ∨ op = 10 ∨ op = 11 ∨ op = 12 ∨ op = 13 ∨ op = 14 ∨ op = 15 ∨ op = 16 ∨ op = 17 ∨ op = 18 ∨ op = 19 ∨ op = 20 ∨ op = 21 ∨ op = 22 ∨ op = 23 ∨ op = 24 ∨ op = 25 ∨ op = 26 ∨ op = 27 ∨ op = 28 ∨ op = 29 ∨ op = 30 ∨ op = 31 ∨ op = 32 ∨ op = 33 ∨ op = 34 ∨ op = 35 ∨ op = 36 ∨ op = 37 ∨ op = 38 := by
  unfold isOp at h; omega
theorem isOp_nat {op : Int} (h : isOp op) : ∃ k : Nat, op = k ∧ 1 ≤ k ∧ k < 39 := by
  unfold isOp at h; exact ⟨op.toNat, by omega, by omega, by omega⟩
theorem nm_none {op : Int} (h : ¬ isOp op) : nm op = [] := by rw [nm, if_neg h]
theorem nm_nat {k : Nat} (h1 : 1 ≤ k) (h2 : k < 39) : nm k = opNames.getD k [] := by rw [nm, if_pos ⟨by omega, by omega⟩, Int.toNat_natCast]
theorem names_ne : ∀ k : Fin 39, 1 ≤ k.val → opNames.getD k.val [] ≠ [] := by decide +kernel
theorem names_inj : ∀ j k : Fin 39, 1 ≤ j.val → 1 ≤ k.val → opNames.getD j.val [] = opNames.getD k.val [] → j = k := by decide +kernel
theorem names_blank : ∀ k : Fin 39, ∀ c ∈ opNames.getD k.val [], c ≠ 32 := by decide +kernel
theorem nm_ne {op : Int} (h : isOp op) : nm op ≠ [] := by
  obtain ⟨k, rfl, h1, h2⟩ := isOp_nat h
  rw [nm_nat h1 h2]; exact names_ne ⟨k, h2⟩ h1
theorem nm_iff {op : Int} : nm op ≠ [] ↔ isOp op := ⟨fun h => Classical.byContradiction fun hn => h (nm_none hn), nm_ne⟩
theorem nm_inj {a b : Int} (ha : isOp a) (hb : isOp b) (h : nm a = nm b) : a = b := by
  obtain ⟨j, rfl, h1, h2⟩ := isOp_nat ha
  obtain ⟨k, rfl, h3, h4⟩ := isOp_nat hb
  rw [nm_nat h1 h2, nm_nat h3 h4] at h
  have := names_inj ⟨j, h2⟩ ⟨k, h4⟩ h1 h3 h
  simp only [Fin.mk.injEq] at this
  omega
theorem nm_blank (op : Int) : ∀ c ∈ nm op, c ≠ 32 := by
  by_cases h : isOp op
  · obtain ⟨k, rfl, h1, h2⟩ := isOp_nat h
    rw [nm_nat h1 h2]; exact names_blank ⟨k, h2⟩
  · rw [nm_none h]; intro c hc; simp at hc
theorem names_short : ∀ k : Fin 39, (opNames.getD k.val []).length ≤ 10 := by decide +kernel
theorem nm_length (op : Int) : (nm op).length ≤ 10 := by
  by_cases h : isOp op
  · obtain ⟨k, rfl, h1, h2⟩ := isOp_nat h
    rw [nm_nat h1 h2]; exact names_short ⟨k, h2⟩
  · rw [nm_none h]; simp

/-- So far: whose name it is. -/
def OpSo (n : List UInt8) (i : Nat) (k : Int) : Prop := (k = 0 ∧ ∀ j : Nat, 1 ≤ j → j < i → nm j ≠ n) ∨ ∃ j : Nat, 1 ≤ j ∧ j < i ∧ nm j = n ∧ k = j
theorem OpSo.yes {n : List UInt8} {i : Nat} (h1 : 1 ≤ i) (e : nm i = n) : OpSo n (i + 1) i := .inr ⟨i, h1, by omega, e, rfl⟩
theorem OpSo.no {n : List UInt8} {i : Nat} {k : Int} (h : OpSo n i k) (e : nm i ≠ n) : OpSo n (i + 1) k := by
  rcases h with ⟨rfl, h⟩ | ⟨j, h1, h2, h3, rfl⟩
  · refine .inl ⟨rfl, fun j a c => ?_⟩
    rcases Nat.lt_or_ge j i with h4 | h4
    · exact h j a h4
    · obtain rfl : j = i := by omega
      exact e
  · exact .inr ⟨j, h1, by omega, h3, rfl⟩
/-- Whose name it is; 0: nobody's. -/
noncomputable def opOf (n : List UInt8) : Int := open Classical in if h : ∃ k : Int, isOp k ∧ nm k = n then h.choose else 0
theorem opOf_name {k : Int} (h : isOp k) : opOf (nm k) = k := by
  have hx : ∃ k' : Int, isOp k' ∧ nm k' = nm k := ⟨k, h, rfl⟩
  unfold opOf
  rw [dif_pos hx]
  exact nm_inj hx.choose_spec.1 h hx.choose_spec.2
theorem opOf_none {n : List UInt8} (h : ∀ k : Int, isOp k → nm k ≠ n) : opOf n = 0 := by
  unfold opOf
  rw [dif_neg (fun ⟨k, h1, h2⟩ => h k h1 h2)]
theorem opOf_back {n : List UInt8} (h : opOf n ≠ 0) : isOp (opOf n) ∧ nm (opOf n) = n := by
  unfold opOf at h ⊢
  split
  · next hx => exact hx.choose_spec
  · next hx => rw [dif_neg hx] at h; exact (h rfl).elim
theorem opOf_or (n : List UInt8) : opOf n = 0 ∨ isOp (opOf n) := by
  by_cases h : opOf n = 0
  · exact .inl h
  · exact .inr (opOf_back h).1
theorem OpSo.done {n : List UInt8} {k : Int} (h : OpSo n 39 k) : k = opOf n := by
  rcases h with ⟨rfl, h⟩ | ⟨j, h1, h2, h3, rfl⟩
  · refine (opOf_none fun q hq e => ?_).symm
    obtain ⟨j, rfl, a, b⟩ := isOp_nat hq
    exact h j a b e
  · rw [← h3, opOf_name ⟨by omega, by omega⟩]
end Go.Proofs.YtaipbioapbgcnaaDoor.Cm
