/-
  The clean machine, part YB: slices that grow by append.
-/
import Derived.Test.YtmppoknfekdbbaaDoorCmYA
namespace Go.Proofs.YtmppoknfekdbbaaDoor.Cm
open Go.RowKit

/-- A slice of m elements of so many cells each, that nobody else shares. -/
def IsSl (h : Heap) (v : CVal) (sz m : Nat) (cs : List CVal) : Prop :=
  (v = .nilSlice ∧ m = 0 ∧ cs = []) ∨ ∃ b wr opn, v = .slice b 0 m m ∧ cs.length = m * sz ∧ h.get b = some (.cells cs wr opn) ∧ (opn = none ∨ (opn = some sz ∧ wr = true))
/-- Its block is not below. -/
def vlo (lo : Nat) (v : CVal) : Prop := ∀ j o l c, v = .slice j o l c → lo ≤ j
/-- Its block is not that one. -/
def vne (j : Nat) (v : CVal) : Prop := ∀ o l c, v ≠ .slice j o l c
theorem vlo.ne {lo j : Nat} {v : CVal} (h : vlo lo v) (hj : j < lo) : vne j v := fun o l c e => Nat.not_lt.2 (h j o l c e) hj
theorem vlo_nil (lo : Nat) : vlo lo .nilSlice := fun _ _ _ _ e => by simp at e
theorem vlo_slice {lo b o l c : Nat} (h : lo ≤ b) : vlo lo (.slice b o l c) := fun _ _ _ _ e => by simp only [CVal.slice.injEq] at e; obtain ⟨rfl, _⟩ := e; exact h
theorem vlo.mono {lo lo' : Nat} {v : CVal} (h : vlo lo v) (hl : lo' ≤ lo) : vlo lo' v := fun j o l c e => Nat.le_trans hl (h j o l c e)
theorem IsSl.nil {h : Heap} {sz : Nat} : IsSl h .nilSlice sz 0 [] := .inl ⟨rfl, rfl, rfl⟩
theorem IsSl.len {h : Heap} {v : CVal} {sz m : Nat} {cs : List CVal} (s : IsSl h v sz m cs) : cs.length = m * sz := by
  rcases s with ⟨_, rfl, rfl⟩ | ⟨_, _, _, _, e, _⟩
  · simp
  · exact e
theorem IsSl.frame {h h' : Heap} {v : CVal} {sz m : Nat} {cs : List CVal} (s : IsSl h v sz m cs) (e : ∀ j, ¬ vne j v → h'.get j = h.get j) : IsSl h' v sz m cs := by
  rcases s with s | ⟨b, wr, opn, rfl, e1, e2, e3⟩
  · exact .inl s
  · exact .inr ⟨b, wr, opn, rfl, e1, (e b fun n => n _ _ _ rfl).trans e2, e3⟩
theorem IsSl.exd {h h' : Heap} {v : CVal} {sz m : Nat} {cs : List CVal} (s : IsSl h v sz m cs) (e : Exd h h') (hl : ∀ j o l c, v = .slice j o l c → j < h.next) : IsSl h' v sz m cs :=
  s.frame fun j hj => e.get j (Classical.byContradiction fun hn => hj fun o l c hv => hn (hl j o l c hv))

theorem srcC_one {h : Heap} {sz j n : Nat} {us : List CVal} {wr : Bool} {opn : Option Nat} (g : h.get j = some (.cells us wr opn)) (hl : us.length = n * sz) (hn : 0 < n) : srcC h sz (.slice j 0 n n) = some (n, us) := by
  have e : ((us.drop 0).take (n * sz)) = us := by rw [List.drop_zero, ← hl, List.take_length]
  simp only [srcC, g, if_neg (Nat.ne_of_gt hn)]
  rw [e, if_pos hl]

theorem appendC_sl {h : Heap} {v x : CVal} {sz bytes m n : Nat} {cs new : List CVal} (hv : IsSl h v sz m cs) (hx : srcC h sz x = some (n, new)) (hn : 0 < n) (ho : new.all CVal.one = true) (hb : (m + n) * bytes ≤ 1099511627776) :
    ∃ h', appendC h sz bytes v x = some (.slice h.next 0 (m + n) (m + n), h') ∧ h'.next = h.next + 1 ∧ h'.get h.next = some (.cells (cs ++ new) true (some sz)) ∧ ∀ j, j < h.next → vne j v → h'.get j = h.get j := by
  unfold appendC
  simp only [hx, ho, if_true]
  rcases hv with ⟨rfl, rfl, rfl⟩ | ⟨b, wr, opn, rfl, e1, e2, e3⟩
  · refine ⟨h.new (.cells new true (some sz)), ?_, rfl, ?_, fun j hj _ => h.get_new_ne j _ (Nat.ne_of_lt hj)⟩
    · simp only [if_neg (Nat.ne_of_gt hn), Nat.zero_add] at hb ⊢
      rw [if_pos hb]
    · rw [List.nil_append]; exact h.get_new_same _
  · have t : ((cs.drop 0).take (m * sz)) = cs := by rw [List.drop_zero, ← e1, List.take_length]
    simp only [if_neg (Nat.ne_of_gt hn), e2]
    rw [if_neg (by omega), if_pos ⟨hb, by rw [t]; exact e1⟩, t]
    rcases e3 with rfl | ⟨rfl, rfl⟩
    · exact ⟨_, rfl, rfl, h.get_new_same _, fun j hj _ => h.get_new_ne j _ (Nat.ne_of_lt hj)⟩
    · simp only
      rw [if_pos ⟨trivial, trivial, by omega⟩]
      refine ⟨_, rfl, rfl, (h.kill b).get_new_same _, fun j hj hne => ?_⟩
      rw [Heap.get_new_ne (h.kill b) j _ (Nat.ne_of_lt hj), Heap.get_kill_ne _ _ _ (fun e => hne _ _ _ (by rw [e]))]

theorem bounds2 {len cap p q : Nat} {a b : Int} {k k' : IntKind} (ha : a = p) (hb : b = q) (h : p ≤ q) (h' : q ≤ cap) : boundsC len cap (some (.int k a)) (some (.int k' b)) none = some (p, q, cap) := by
  subst ha; subst hb
  have hq : asNat (.int k' (q : Int)) = some q := by rw [asNat, if_pos (Int.natCast_nonneg q), Int.toNat_natCast]
  have hp : asNat (.int k (p : Int)) = some p := by rw [asNat, if_pos (Int.natCast_nonneg p), Int.toNat_natCast]
  delta boundsC
  simp only [hq, hp]
  rw [if_pos (Nat.le_refl cap), if_pos h', if_pos h]
end Go.Proofs.YtmppoknfekdbbaaDoor.Cm
