/-
  Sources made of numbers: expressions, conditions, what is called.
-/
import Derived.Test.YtldhkhgbjomjcaaDoorCmKM
namespace Go.Proofs.YtldhkhgbjomjcaaDoor.Cm
open Go.RowKit Go.IntWalk
attribute [local irreducible] Heap.set Heap.new Heap.kill Heap.get Heap.room Cal WP

section
variable {h₀ h : Heap} {p n : Nat} {vz : CVal} {zs : List Int} {pr : Int} {ins : List UInt8}
theorem GETN.ofM {K : List CVal → Bool → Option Nat → Prop} (M : MK h₀ h p n vz zs pr ins)
    (k : ∀ (a : Nat) (w : CVal) (left : Int), 0 ≤ pr → pr ≤ 3 → -(n : Int) ≤ left → left ≤ 60 → K [vz, .int .i64 a, w, .int .i64 pr, .str ins, .int .i64 left] true none) : GETN h p K := by
  obtain ⟨x, hp, p1, rz, a, w, left, s, g, ha, h1, h2, h3, h4, O, ne, hs⟩ := M
  exact GETN.mk g (k a w left h1 h2 h3 h4)
theorem SETN.ofM3 {K : Heap → Prop} {z : Int} (M : MK h₀ h p n vz zs pr ins) (hz : 0 ≤ z ∧ z ≤ 3) (k : ∀ h', MK h₀ h' p n vz zs z ins → K h') : SETN h p (0 + 3) 1 [.int .i64 z] K := by
  obtain ⟨x, hp, p1, rz, a, w, left, s, g, ha, h1, h2, h3, h4, O, ne, hs⟩ := M
  refine SETN.mk g rfl (Nat.le_of_ble_eq_true rfl) (k _ ?_)
  exact ⟨Exd.set x hp, hp, by rw [Heap.next_set]; exact p1, rz, a, w, left, s, Heap.get_set_same _ _ _, ha, hz.1, hz.2, h3, h4, O.set ne, ne, hs⟩
theorem SETN.ofM4 {K : Heap → Prop} {t : List UInt8} (M : MK h₀ h p n vz zs pr ins) (k : ∀ h', MK h₀ h' p n vz zs pr t → K h') : SETN h p (0 + 4) 1 [.str t] K := by
  obtain ⟨x, hp, p1, rz, a, w, left, s, g, ha, h1, h2, h3, h4, O, ne, hs⟩ := M
  refine SETN.mk g rfl (Nat.le_of_ble_eq_true rfl) (k _ ?_)
  exact ⟨Exd.set x hp, hp, by rw [Heap.next_set]; exact p1, rz, a, w, left, s, Heap.get_set_same _ _ _, ha, h1, h2, h3, h4, O.set ne, ne, hs⟩
theorem SETN.ofM5 {K : Heap → Prop} {z : Int} (M : MK h₀ h p n vz zs pr ins) (hz : -((n : Int) + 1) ≤ z ∧ z ≤ 60) (k : ∀ h', MK h₀ h' p (n + 1) vz zs pr ins → K h') : SETN h p (0 + 5) 1 [.int .i64 z] K := by
  obtain ⟨x, hp, p1, rz, a, w, left, s, g, ha, h1, h2, h3, h4, O, ne, hs⟩ := M
  refine SETN.mk g rfl (Nat.le_of_ble_eq_true rfl) (k _ ?_)
  exact ⟨Exd.set x hp, hp, by rw [Heap.next_set]; exact p1, rz, a, w, z, s, Heap.get_set_same _ _ _, ha, h1, h2, by omega, hz.2, O.set ne, ne, by omega⟩
theorem put60_cal {t : List UInt8} {Q : CVal → Heap → Prop} (M : MK h₀ h p n vz zs pr ins) (ht : t.length ≤ 60) (hn : n + 60 ≤ 1000000000) (q : ∀ h', MK h₀ h' p (n + 60) vz zs pr ins → Q (.tuple []) h') : Cal tt 23 [.ptr p 0, .str t] h Q :=
  put_cal M (by omega) fun h' M' => q h' (M'.more (by omega))
theorem OPN.arr {N : Nat} {ρ : Env} {h : Heap} {len : Nat} {X Y : CX} {cs : List CVal} {i : Int} {ik : IntKind} {K : CVal → Heap → Prop} (hx : X.on N ρ = .agg cs) (hy : Y.on N ρ = .int ik i) (h0 : 0 ≤ i) (hl : i < len) (hc : cs.length = len)
    (hall : ∀ v ∈ cs, ∃ t : List UInt8, v = .str t ∧ t.length ≤ 30) (k : ∀ t : List UInt8, t.length ≤ 30 → K (.str t) h) : OPN N (.indexArr len false 1 X Y) ρ h K := by
  have hi : i.toNat < cs.length := by omega
  obtain ⟨t, e, ht⟩ := hall cs[i.toNat] (List.getElem_mem hi)
  refine .mk (v := .str t) (h' := h) ?_ (k t ht)
  have hq : asNat (.int ik i) = some i.toNat := by rw [asNat, if_pos h0]
  simp only [cop, CX.on_ev, hx, hy, hq]
  rw [if_pos (by omega)]
  simp [partC, hi, e]
theorem AT.each {vs : List CVal} {o : Nat} {K : CVal → Prop} (h : o < vs.length) (hall : ∀ v ∈ vs, ∃ t : List UInt8, v = .str t ∧ t.length ≤ 60) (k : ∀ t : List UInt8, t.length ≤ 60 → K (.str t)) : AT vs o K := by
  obtain ⟨t, e, ht⟩ := hall vs[o] (List.getElem_mem h)
  exact AT.of (v := .str t) (by rw [List.getElem?_eq_getElem h, e]) (k t ht)

theorem callee_cal {Q : CVal → Heap → Prop} (M : MK h₀ h p n vz zs pr ins) (hz : zs.length ≤ 100000)
    (q : ∀ r h', 1 ≤ r → r ≤ 3 → MK h₀ h' p n vz zs pr ins → Q (.int .i64 r) h') : Cal tt 39 [.ptr p 0] h Q := by
  refine Cal.run rfl rfl rfl rfl ?_
  have M0 := M
  obtain ⟨x, hp, p1, rz, a, w, left, s, g, ha, h1, h2, h3, h4, O, ne, hs⟩ := M
  by_cases h5 : 3 ≤ pr
  · (repeat' ((conv => whnf); (first | (refine LTN.yes (by omega) ?_) | (refine LTN.no (by omega) ?_) | (refine LTN.mk (fun _ => ?_) (fun _ => ?_)) | (refine EQN.yes (by omega) ?_) | (refine EQN.no (by omega) ?_) | (refine EQN.mk (fun _ => ?_) (fun _ => ?_)) | (refine EQSN.yes (by first | rfl | assumption) ?_) | (refine EQSN.no (by first | decide | assumption) ?_) | (refine EQSN.mk (fun _ => ?_) (fun _ => ?_)) | (refine ARN.in (by omega) ?_) | (refine ARN.fits (by first | (apply u8_in; omega) | (apply i32_in; omega) | (apply u32_in; omega)) ?_) | (refine QUON.pos (by omega) ?_) | (refine REMN.pos (by omega) ?_) | (refine REMN.mk (by omega) ?_) | ((first | (show GETN _ _ _; apply GETN.mk) | (show GETM _ _ _; apply GETM.mk) | (show SETN _ _ _ _ _ _; apply SETN.mk) | (show LOOKN _ _ _ _ _ _; apply LOOKN.mk (QV.load rfl ?g ?hl)) | (show LOOKN _ _ _ _ _ _; apply LOOKN.mk (QV.loadA rfl ?g ?hl ?ho))); (case g => ((repeat first | refine Heap.room_get ?_ | refine Heap.set_skip (by omega) ?_ | refine Heap.new_skip (by ((repeat first | apply Heap.nx_set | apply Heap.nx_new | apply Heap.nx_kill | apply Heap.nx_room); first | assumption | rfl)) (by omega) ?_ | refine Exd.skip (by assumption) (by omega) ?_); first | assumption | exact Heap.set_at (by omega) | exact Heap.new_at (by ((repeat first | apply Heap.nx_set | apply Heap.nx_new | apply Heap.nx_kill | apply Heap.nx_room); first | assumption | rfl)) (by omega))); (try (case hl => rfl)); (try (case ho => first | rfl | (first | decide | (simp; done) | (simp; omega) | exact Nat.le_of_ble_eq_true rfl)))) | (show NEWN _ _; refine NEWN.mk (by ((repeat first | apply Heap.nx_set | apply Heap.nx_new | apply Heap.nx_kill | apply Heap.nx_room); first | assumption | rfl)) ?_) | (show DOESN _ _; refine DOESN.mk (by first | rfl | omega | (simp; done) | (simp; omega)) ?_) | (refine BC.yes (by assumption) ?_) | (refine BC.no (by assumption) ?_) | (refine BC.split (fun _ => ?_) (fun _ => ?_)) | (refine SOMEN.mk (by rfl) ?_) | (refine scopeC ?_) | (refine drawC0 (hist := fun _ => Heap.empty 0) rfl ?_) | (refine drawC (hist := fun _ => Heap.empty 0) rfl ?_) | (show NUMN _ _; refine NUMN.mk (by ((repeat first | apply Heap.nx_set | apply Heap.nx_new | apply Heap.nx_kill | apply Heap.nx_room); first | assumption | rfl)) ?_) | fail)))
    exact q _ _ (by omega) (by omega) M0
  · (repeat' ((conv => whnf); (first | (refine LTN.yes (by omega) ?_) | (refine LTN.no (by omega) ?_) | (refine LTN.mk (fun _ => ?_) (fun _ => ?_)) | (refine EQN.yes (by omega) ?_) | (refine EQN.no (by omega) ?_) | (refine EQN.mk (fun _ => ?_) (fun _ => ?_)) | (refine EQSN.yes (by first | rfl | assumption) ?_) | (refine EQSN.no (by first | decide | assumption) ?_) | (refine EQSN.mk (fun _ => ?_) (fun _ => ?_)) | (refine ARN.in (by omega) ?_) | (refine ARN.fits (by first | (apply u8_in; omega) | (apply i32_in; omega) | (apply u32_in; omega)) ?_) | (refine QUON.pos (by omega) ?_) | (refine REMN.pos (by omega) ?_) | (refine REMN.mk (by omega) ?_) | ((first | (show GETN _ _ _; apply GETN.mk) | (show GETM _ _ _; apply GETM.mk) | (show SETN _ _ _ _ _ _; apply SETN.mk) | (show LOOKN _ _ _ _ _ _; apply LOOKN.mk (QV.load rfl ?g ?hl)) | (show LOOKN _ _ _ _ _ _; apply LOOKN.mk (QV.loadA rfl ?g ?hl ?ho))); (case g => ((repeat first | refine Heap.room_get ?_ | refine Heap.set_skip (by omega) ?_ | refine Heap.new_skip (by ((repeat first | apply Heap.nx_set | apply Heap.nx_new | apply Heap.nx_kill | apply Heap.nx_room); first | assumption | rfl)) (by omega) ?_ | refine Exd.skip (by assumption) (by omega) ?_); first | assumption | exact Heap.set_at (by omega) | exact Heap.new_at (by ((repeat first | apply Heap.nx_set | apply Heap.nx_new | apply Heap.nx_kill | apply Heap.nx_room); first | assumption | rfl)) (by omega))); (try (case hl => rfl)); (try (case ho => first | rfl | (first | decide | (simp; done) | (simp; omega) | exact Nat.le_of_ble_eq_true rfl)))) | (show NEWN _ _; refine NEWN.mk (by ((repeat first | apply Heap.nx_set | apply Heap.nx_new | apply Heap.nx_kill | apply Heap.nx_room); first | assumption | rfl)) ?_) | (show DOESN _ _; refine DOESN.mk (by first | rfl | omega | (simp; done) | (simp; omega)) ?_) | (refine BC.yes (by assumption) ?_) | (refine BC.no (by assumption) ?_) | (refine BC.split (fun _ => ?_) (fun _ => ?_)) | (refine SOMEN.mk (by rfl) ?_) | (refine scopeC ?_) | (refine drawC0 (hist := fun _ => Heap.empty 0) rfl ?_) | (refine drawC (hist := fun _ => Heap.empty 0) rfl ?_) | (show NUMN _ _; refine NUMN.mk (by ((repeat first | apply Heap.nx_set | apply Heap.nx_new | apply Heap.nx_kill | apply Heap.nx_room); first | assumption | rfl)) ?_) | fail)))
    refine CALLN.of (mnext_cal M0 hz (by omega) fun r h1 r0 r1 M1 => ?_)
    have M2 := M1
    obtain ⟨x', hp', p1', rz', a', w', left', s', g', ha', h1', h2', h3', h4', O', ne', hs'⟩ := M1
    (repeat' ((conv => whnf); (first | (refine LTN.yes (by omega) ?_) | (refine LTN.no (by omega) ?_) | (refine LTN.mk (fun _ => ?_) (fun _ => ?_)) | (refine EQN.yes (by omega) ?_) | (refine EQN.no (by omega) ?_) | (refine EQN.mk (fun _ => ?_) (fun _ => ?_)) | (refine EQSN.yes (by first | rfl | assumption) ?_) | (refine EQSN.no (by first | decide | assumption) ?_) | (refine EQSN.mk (fun _ => ?_) (fun _ => ?_)) | (refine ARN.in (by omega) ?_) | (refine ARN.fits (by first | (apply u8_in; omega) | (apply i32_in; omega) | (apply u32_in; omega)) ?_) | (refine QUON.pos (by omega) ?_) | (refine REMN.pos (by omega) ?_) | (refine REMN.mk (by omega) ?_) | ((first | (show GETN _ _ _; apply GETN.mk) | (show GETM _ _ _; apply GETM.mk) | (show SETN _ _ _ _ _ _; apply SETN.mk) | (show LOOKN _ _ _ _ _ _; apply LOOKN.mk (QV.load rfl ?g ?hl)) | (show LOOKN _ _ _ _ _ _; apply LOOKN.mk (QV.loadA rfl ?g ?hl ?ho))); (case g => ((repeat first | refine Heap.room_get ?_ | refine Heap.set_skip (by omega) ?_ | refine Heap.new_skip (by ((repeat first | apply Heap.nx_set | apply Heap.nx_new | apply Heap.nx_kill | apply Heap.nx_room); first | assumption | rfl)) (by omega) ?_ | refine Exd.skip (by assumption) (by omega) ?_); first | assumption | exact Heap.set_at (by omega) | exact Heap.new_at (by ((repeat first | apply Heap.nx_set | apply Heap.nx_new | apply Heap.nx_kill | apply Heap.nx_room); first | assumption | rfl)) (by omega))); (try (case hl => rfl)); (try (case ho => first | rfl | (first | decide | (simp; done) | (simp; omega) | exact Nat.le_of_ble_eq_true rfl)))) | (show NEWN _ _; refine NEWN.mk (by ((repeat first | apply Heap.nx_set | apply Heap.nx_new | apply Heap.nx_kill | apply Heap.nx_room); first | assumption | rfl)) ?_) | (show DOESN _ _; refine DOESN.mk (by first | rfl | omega | (simp; done) | (simp; omega)) ?_) | (refine BC.yes (by assumption) ?_) | (refine BC.no (by assumption) ?_) | (refine BC.split (fun _ => ?_) (fun _ => ?_)) | (refine SOMEN.mk (by rfl) ?_) | (refine scopeC ?_) | (refine drawC0 (hist := fun _ => Heap.empty 0) rfl ?_) | (refine drawC (hist := fun _ => Heap.empty 0) rfl ?_) | (show NUMN _ _; refine NUMN.mk (by ((repeat first | apply Heap.nx_set | apply Heap.nx_new | apply Heap.nx_kill | apply Heap.nx_room); first | assumption | rfl)) ?_) | fail)))
    exact q _ _ (by omega) (by omega) M2
end
end Go.Proofs.YtldhkhgbjomjcaaDoor.Cm
