/-
  Sources made of numbers: expressions, conditions, what is called.
-/
import Derived.Test.YtldhkhgbjomjcaaDoorCmKM
import Derived.Test.YtldhkhgbjomjcaaDoorCmZ
namespace Go.Proofs.YtldhkhgbjomjcaaDoor.Cm
open Go.RowKit Go.IntWalk
attribute [local irreducible] Heap.set Heap.new Heap.kill Heap.get Heap.room Cal WP

section
variable {h₀ h : Heap} {p n : Nat} {vz : CVal} {zs : List Int} {pr : Int} {ins : List UInt8}
theorem GETN.ofM {K : List CVal → Bool → Option Nat → Prop} (M : MK h₀ h p n vz zs pr ins)
    (k : ∀ (a : Nat) (w : CVal) (left : Int), 0 ≤ pr → pr ≤ 3 → -(n : Int) ≤ left → left ≤ 60 → K [vz, .int .i64 a, w, .int .i64 pr, .str ins, .int .i64 left] true none) : GETN h p K := by
  obtain ⟨x, hp, p1, rz, a, w, left, s, g, ha, h1, h2, h3, h4, O, ne, hs⟩ := M
  exact ZO g (k a w left h1 h2 h3 h4)
theorem SETN.ofM3 {K : Heap → Prop} {z : Int} (M : MK h₀ h p n vz zs pr ins) (hz : 0 ≤ z ∧ z ≤ 3) (k : ∀ h', MK h₀ h' p n vz zs z ins → K h') : SETN h p (0 + 3) 1 [.int .i64 z] K := by
  obtain ⟨x, hp, p1, rz, a, w, left, s, g, ha, h1, h2, h3, h4, O, ne, hs⟩ := M
  refine ZQ g rfl (Nat.le_of_ble_eq_true rfl) (k _ ?_)
  exact ⟨Exd.set x hp, hp, by rw [Heap.next_set]; exact p1, rz, a, w, left, s, Heap.get_set_same _ _ _, ha, hz.1, hz.2, h3, h4, O.set ne, ne, hs⟩
theorem SETN.ofM4 {K : Heap → Prop} {t : List UInt8} (M : MK h₀ h p n vz zs pr ins) (k : ∀ h', MK h₀ h' p n vz zs pr t → K h') : SETN h p (0 + 4) 1 [.str t] K := by
  obtain ⟨x, hp, p1, rz, a, w, left, s, g, ha, h1, h2, h3, h4, O, ne, hs⟩ := M
  refine ZQ g rfl (Nat.le_of_ble_eq_true rfl) (k _ ?_)
  exact ⟨Exd.set x hp, hp, by rw [Heap.next_set]; exact p1, rz, a, w, left, s, Heap.get_set_same _ _ _, ha, h1, h2, h3, h4, O.set ne, ne, hs⟩
theorem SETN.ofM5 {K : Heap → Prop} {z : Int} (M : MK h₀ h p n vz zs pr ins) (hz : -((n : Int) + 1) ≤ z ∧ z ≤ 60) (k : ∀ h', MK h₀ h' p (n + 1) vz zs pr ins → K h') : SETN h p (0 + 5) 1 [.int .i64 z] K := by
  obtain ⟨x, hp, p1, rz, a, w, left, s, g, ha, h1, h2, h3, h4, O, ne, hs⟩ := M
  refine ZQ g rfl (Nat.le_of_ble_eq_true rfl) (k _ ?_)
  exact ⟨Exd.set x hp, hp, by rw [Heap.next_set]; exact p1, rz, a, w, z, s, Heap.get_set_same _ _ _, ha, h1, h2, by omega, hz.2, O.set ne, ne, by omega⟩
theorem put60_cal {t : List UInt8} {Q : CVal → Heap → Prop} (M : MK h₀ h p n vz zs pr ins) (ht : t.length ≤ 60) (hn : n + 60 ≤ 1000000000) (q : ∀ h', MK h₀ h' p (n + 60) vz zs pr ins → Q (.tuple []) h') : Cal tt 23 [.ptr p 0, .str t] h Q :=
  put_cal M (by omega) fun h' M' => q h' (M'.more (by omega))
theorem OPN.arr {N : Nat} {ρ : Env} {h : Heap} {len : Nat} {X Y : CX} {cs : List CVal} {i : Int} {ik : IntKind} {K : CVal → Heap → Prop} (hx : X.on N ρ = .agg cs) (hy : Y.on N ρ = .int ik i) (h0 : 0 ≤ i) (hl : i < len) (hc : cs.length = len)
    (hall : ∀ v ∈ cs, ∃ t : List UInt8, v = .str t ∧ t.length ≤ 30) (k : ∀ t : List UInt8, t.length ≤ 30 → K (.str t) h) : OPN N (.indexArr len false 1 X Y) ρ h K := by
  have hi : i.toNat < cs.length := by omega
  obtain ⟨t, e, ht⟩ := hall cs[i.toNat] (List.getElem_mem hi)
  refine .mk (v := .str t) (h' := h) ?_ (k t ht)
  have hq : asNat (.int ik i) = some i.toNat := by rw [asNat, if_pos h0]
  simp only [cop, CX.on_ev, hx, hy, hq]
  rw [if_pos (by omega)]
  simp [partC, hi, e]
theorem AT.each {vs : List CVal} {o : Nat} {K : CVal → Prop} (h : o < vs.length) (hall : ∀ v ∈ vs, ∃ t : List UInt8, v = .str t ∧ t.length ≤ 60) (k : ∀ t : List UInt8, t.length ≤ 60 → K (.str t)) : AT vs o K := by
  obtain ⟨t, e, ht⟩ := hall vs[o] (List.getElem_mem h)
  exact AT.of (v := .str t) (by rw [List.getElem?_eq_getElem h, e]) (k t ht)

theorem callee_cal {Q : CVal → Heap → Prop} (M : MK h₀ h p n vz zs pr ins) (hz : zs.length ≤ 100000)
    (q : ∀ r h', 1 ≤ r → r ≤ 3 → MK h₀ h' p n vz zs pr ins → Q (.int .i64 r) h') : Cal tt 39 [.ptr p 0] h Q := by
  refine Cal.run rfl rfl rfl rfl ?_
  have M0 := M
  obtain ⟨x, hp, p1, rz, a, w, left, s, g, ha, h1, h2, h3, h4, O, ne, hs⟩ := M
  by_cases h5 : 3 ≤ pr
  · (repeat' ((conv => whnf); (first | (refine ZA (by omega) ?_) | (refine ZB (by omega) ?_) | (refine ZC (fun _ => ?_) fun _ => ?_) | (refine ZD (by omega) ?_) | (refine ZE (by omega) ?_) | (refine ZF (fun _ => ?_) fun _ => ?_) | (refine ZG (by first | rfl | assumption) ?_) | (refine ZH (by first | decide | assumption) ?_) | (refine ZI (fun _ => ?_) fun _ => ?_) | (refine ZJ (by omega) ?_) | (refine ZK (by first | (apply u8_in; omega) | (apply i32_in; omega) | (apply u32_in; omega)) ?_) | (refine ZL (by omega) ?_) | (refine ZM (by omega) ?_) | (refine ZN (by omega) ?_) | ((first | (show GETN _ _ _; apply ZO) | (show GETM _ _ _; apply ZP) | (show SETN _ _ _ _ _ _; apply ZQ) | (show LOOKN _ _ _ _ _ _; apply ZR (QV.load rfl ?g ?hl)) | (show LOOKN _ _ _ _ _ _; apply ZR (QV.loadA rfl ?g ?hl ?ho))); (case g => ((repeat first | refine Z5 ?_ | refine Z6 (by omega) ?_ | refine Z7 (by ((repeat first | apply Z1 | apply Z2 | apply Z3 | apply Z4); first | assumption | rfl)) (by omega) ?_ | refine Z8 (by assumption) (by omega) ?_); first | assumption | exact Z9 (by omega) | exact Z0 (by ((repeat first | apply Z1 | apply Z2 | apply Z3 | apply Z4); first | assumption | rfl)) (by omega))); (try (case hl => rfl)); (try (case ho => first | rfl | (first | decide | (simp; done) | (simp; omega) | exact Nat.le_of_ble_eq_true rfl)))) | (show NEWN _ _; refine ZS (by ((repeat first | apply Z1 | apply Z2 | apply Z3 | apply Z4); first | assumption | rfl)) ?_) | (show DOESN _ _; refine ZT (by first | rfl | omega | (simp; done) | (simp; omega)) ?_) | (refine ZU (by assumption) ?_) | (refine ZV (by assumption) ?_) | (refine ZW (fun _ => ?_) fun _ => ?_) | (refine ZX (by rfl) ?_) | (refine scopeC ?_) | (refine ZZ rfl ?_) | (refine Zz rfl ?_) | (show NUMN _ _; refine ZY (by ((repeat first | apply Z1 | apply Z2 | apply Z3 | apply Z4); first | assumption | rfl)) ?_) | fail)))
    exact q _ _ (by omega) (by omega) M0
  · (repeat' ((conv => whnf); (first | (refine ZA (by omega) ?_) | (refine ZB (by omega) ?_) | (refine ZC (fun _ => ?_) fun _ => ?_) | (refine ZD (by omega) ?_) | (refine ZE (by omega) ?_) | (refine ZF (fun _ => ?_) fun _ => ?_) | (refine ZG (by first | rfl | assumption) ?_) | (refine ZH (by first | decide | assumption) ?_) | (refine ZI (fun _ => ?_) fun _ => ?_) | (refine ZJ (by omega) ?_) | (refine ZK (by first | (apply u8_in; omega) | (apply i32_in; omega) | (apply u32_in; omega)) ?_) | (refine ZL (by omega) ?_) | (refine ZM (by omega) ?_) | (refine ZN (by omega) ?_) | ((first | (show GETN _ _ _; apply ZO) | (show GETM _ _ _; apply ZP) | (show SETN _ _ _ _ _ _; apply ZQ) | (show LOOKN _ _ _ _ _ _; apply ZR (QV.load rfl ?g ?hl)) | (show LOOKN _ _ _ _ _ _; apply ZR (QV.loadA rfl ?g ?hl ?ho))); (case g => ((repeat first | refine Z5 ?_ | refine Z6 (by omega) ?_ | refine Z7 (by ((repeat first | apply Z1 | apply Z2 | apply Z3 | apply Z4); first | assumption | rfl)) (by omega) ?_ | refine Z8 (by assumption) (by omega) ?_); first | assumption | exact Z9 (by omega) | exact Z0 (by ((repeat first | apply Z1 | apply Z2 | apply Z3 | apply Z4); first | assumption | rfl)) (by omega))); (try (case hl => rfl)); (try (case ho => first | rfl | (first | decide | (simp; done) | (simp; omega) | exact Nat.le_of_ble_eq_true rfl)))) | (show NEWN _ _; refine ZS (by ((repeat first | apply Z1 | apply Z2 | apply Z3 | apply Z4); first | assumption | rfl)) ?_) | (show DOESN _ _; refine ZT (by first | rfl | omega | (simp; done) | (simp; omega)) ?_) | (refine ZU (by assumption) ?_) | (refine ZV (by assumption) ?_) | (refine ZW (fun _ => ?_) fun _ => ?_) | (refine ZX (by rfl) ?_) | (refine scopeC ?_) | (refine ZZ rfl ?_) | (refine Zz rfl ?_) | (show NUMN _ _; refine ZY (by ((repeat first | apply Z1 | apply Z2 | apply Z3 | apply Z4); first | assumption | rfl)) ?_) | fail)))
    refine Za (mnext_cal M0 hz (by omega) fun r h1 r0 r1 M1 => ?_)
    have M2 := M1
    obtain ⟨x', hp', p1', rz', a', w', left', s', g', ha', h1', h2', h3', h4', O', ne', hs'⟩ := M1
    (repeat' ((conv => whnf); (first | (refine ZA (by omega) ?_) | (refine ZB (by omega) ?_) | (refine ZC (fun _ => ?_) fun _ => ?_) | (refine ZD (by omega) ?_) | (refine ZE (by omega) ?_) | (refine ZF (fun _ => ?_) fun _ => ?_) | (refine ZG (by first | rfl | assumption) ?_) | (refine ZH (by first | decide | assumption) ?_) | (refine ZI (fun _ => ?_) fun _ => ?_) | (refine ZJ (by omega) ?_) | (refine ZK (by first | (apply u8_in; omega) | (apply i32_in; omega) | (apply u32_in; omega)) ?_) | (refine ZL (by omega) ?_) | (refine ZM (by omega) ?_) | (refine ZN (by omega) ?_) | ((first | (show GETN _ _ _; apply ZO) | (show GETM _ _ _; apply ZP) | (show SETN _ _ _ _ _ _; apply ZQ) | (show LOOKN _ _ _ _ _ _; apply ZR (QV.load rfl ?g ?hl)) | (show LOOKN _ _ _ _ _ _; apply ZR (QV.loadA rfl ?g ?hl ?ho))); (case g => ((repeat first | refine Z5 ?_ | refine Z6 (by omega) ?_ | refine Z7 (by ((repeat first | apply Z1 | apply Z2 | apply Z3 | apply Z4); first | assumption | rfl)) (by omega) ?_ | refine Z8 (by assumption) (by omega) ?_); first | assumption | exact Z9 (by omega) | exact Z0 (by ((repeat first | apply Z1 | apply Z2 | apply Z3 | apply Z4); first | assumption | rfl)) (by omega))); (try (case hl => rfl)); (try (case ho => first | rfl | (first | decide | (simp; done) | (simp; omega) | exact Nat.le_of_ble_eq_true rfl)))) | (show NEWN _ _; refine ZS (by ((repeat first | apply Z1 | apply Z2 | apply Z3 | apply Z4); first | assumption | rfl)) ?_) | (show DOESN _ _; refine ZT (by first | rfl | omega | (simp; done) | (simp; omega)) ?_) | (refine ZU (by assumption) ?_) | (refine ZV (by assumption) ?_) | (refine ZW (fun _ => ?_) fun _ => ?_) | (refine ZX (by rfl) ?_) | (refine scopeC ?_) | (refine ZZ rfl ?_) | (refine Zz rfl ?_) | (show NUMN _ _; refine ZY (by ((repeat first | apply Z1 | apply Z2 | apply Z3 | apply Z4); first | assumption | rfl)) ?_) | fail)))
    exact q _ _ (by omega) (by omega) M2
end
end Go.Proofs.YtldhkhgbjomjcaaDoor.Cm
