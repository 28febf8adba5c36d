/-
  Sources made of numbers: statements; whole sources.
-/
import Derived.Test.YtldhkhgbjomjcaaDoorCmKQ
import Derived.Test.YtldhkhgbjomjcaaDoorCmZ
namespace Go.Proofs.YtldhkhgbjomjcaaDoor.Cm
open Go.RowKit Go.IntWalk
attribute [local irreducible] Heap.set Heap.new Heap.kill Heap.get Heap.room Cal WP

theorem cond1_cal {h₀ h : Heap} {p n : Nat} {vz : CVal} {zs : List Int} {pr : Int} {ins : List UInt8} {Q : CVal → Heap → Prop} (M : MK h₀ h p n vz zs pr ins) (hz : zs.length ≤ 100000) (hn : n + 3300 ≤ 1000000000) (q : ∀ h', MK h₀ h' p (n + 3300) vz zs pr ins → Q (.tuple []) h') : Cal tt 49 [.ptr p 0, .int .i64 1] h Q := cond_cal 1 (by omega) M hz hn q (by omega)
set_option maxRecDepth 1000000 in
set_option maxHeartbeats 16000000 in
theorem stmt_zero : StmtOk 0 2500 := by
  intro h₀ h p n vz zs pr ins Q z ez M hz hn q
  obtain rfl : z = 0 := ez
  refine Cal.run rfl rfl rfl rfl ?_
  (repeat' ((conv => whnf); (first | ((refine GETN.ofM (by assumption) fun _ _ _ _ _ _ _ => ?_)) | ((refine Za (put60_cal (by assumption) (by first | omega | (simp; done) | (simp; omega)) (by omega) fun _ _ => ?_))) | ((refine Za (num_cal (by assumption) hz (by omega) (by omega) fun _ _ => ?_))) | ((refine Za (mnext_cal (by assumption) hz (by omega) fun _ _ _ _ _ => ?_))) | ((refine OPN.arr rfl rfl (by omega) (by omega) rfl (by simp) fun _ _ => ?_)) | ((refine SETN.ofM5 (by assumption) (by omega) fun _ _ => ?_)) | ((refine SETN.ofM4 (by assumption) fun _ _ => ?_)) | ((refine SETN.ofM3 (by assumption) (by omega) fun _ _ => ?_)) | ((refine Za (itoaB_cal (by omega) fun _ _ => ?_))) | ((refine Za (callee_cal (by assumption) hz fun _ _ _ _ _ => ?_))) | ((refine Za (items_cal (by assumption) hz (by omega) fun _ _ => ?_))) | ((refine Za (expr1_cal (by assumption) hz (by omega) fun _ _ => ?_))) | ((refine Za (expr2_cal (by assumption) hz (by omega) fun _ _ => ?_))) | (refine ZA (by omega) ?_) | (refine ZB (by omega) ?_) | (refine ZC (fun _ => ?_) fun _ => ?_) | (refine ZD (by omega) ?_) | (refine ZE (by omega) ?_) | (refine ZF (fun _ => ?_) fun _ => ?_) | (refine ZG (by first | rfl | assumption) ?_) | (refine ZH (by first | decide | assumption) ?_) | (refine ZI (fun _ => ?_) fun _ => ?_) | (refine ZJ (by omega) ?_) | (refine ZK (by first | (apply u8_in; omega) | (apply i32_in; omega) | (apply u32_in; omega)) ?_) | (refine ZL (by omega) ?_) | (refine ZM (by omega) ?_) | (refine ZN (by omega) ?_) | ((first | (show GETN _ _ _; apply ZO) | (show GETM _ _ _; apply ZP) | (show SETN _ _ _ _ _ _; apply ZQ) | (show LOOKN _ _ _ _ _ _; apply ZR (QV.load rfl ?g ?hl)) | (show LOOKN _ _ _ _ _ _; apply ZR (QV.loadA rfl ?g ?hl ?ho))); (case g => ((repeat first | refine Z5 ?_ | refine Z6 (by omega) ?_ | refine Z7 (by ((repeat first | apply Z1 | apply Z2 | apply Z3 | apply Z4); first | assumption | rfl)) (by omega) ?_ | refine Z8 (by assumption) (by omega) ?_); first | assumption | exact Z9 (by omega) | exact Z0 (by ((repeat first | apply Z1 | apply Z2 | apply Z3 | apply Z4); first | assumption | rfl)) (by omega))); (try (case hl => rfl)); (try (case ho => first | rfl | (first | decide | (simp; done) | (simp; omega) | exact Nat.le_of_ble_eq_true rfl)))) | (show NEWN _ _; refine ZS (by ((repeat first | apply Z1 | apply Z2 | apply Z3 | apply Z4); first | assumption | rfl)) ?_) | (show DOESN _ _; refine ZT (by first | rfl | omega | (simp; done) | (simp; omega)) ?_) | (refine ZU (by assumption) ?_) | (refine ZV (by assumption) ?_) | (refine ZW (fun _ => ?_) fun _ => ?_) | (refine ZX (by rfl) ?_) | (refine scopeC ?_) | (refine ZZ rfl ?_) | (refine Zz rfl ?_) | (show NUMN _ _; refine ZY (by ((repeat first | apply Z1 | apply Z2 | apply Z3 | apply Z4); first | assumption | rfl)) ?_) | fail)))
  all_goals exact q _ (MK.more (by assumption) (by omega))
end Go.Proofs.YtldhkhgbjomjcaaDoor.Cm
