/-
  Instructions: the reference's names.
-/
import Derived.Test.YtaipbioapbgcnaaDoorCmIB
namespace Go.Proofs.YtaipbioapbgcnaaDoor.Cm
open Go.RowKit Go.IntWalk
attribute [local irreducible] Heap.set Heap.new Heap.kill Heap.get Heap.room Cal WP

theorem Cal.run2 {T : Tab} {f : FuncId} {fn : CFunc} {args : List CVal} {h : Heap} {Q : CVal → Heap → Prop} (hp : T.prim f = none) (hf : T.code f = some fn) (hl : Nat.ble args.length fn.ntmps = true) (k : wC T fn.ntmps fn.code (argsE args) [] h (endE fn.ntmps fn.results Q)) : Cal T f args h Q := by
  cases fn
  exact Cal.run hp hf rfl hl k
theorem wC_build {T : Tab} {N : Nat} {d0 d : Option Nat} {s0 : List UInt8} {zero : List CVal} {parts : List (Nat × Nat × CX)} {os : List COper} {y : CCode} {ρ : Env} {ds : DS} {h : Heap} {Q : QT} {cs : List CVal}
    (e : fillC zero (parts.map fun p => (p.1, p.2.1, p.2.2.on N (ρ.putO d0 (.str s0)))) = some cs) (k : wC T N (.seq (.region os) y) ((ρ.putO d0 (.str s0)).putO d (.agg cs)) ds h Q) :
    wC T N (.seq (.region [⟨d0, .move (.c (.str s0)), none⟩]) (.seq (.region (⟨d, .build zero parts, none⟩ :: os)) y)) ρ ds h Q := by
  show SM (fillC zero (parts.map fun p => (p.1, p.2.1, p.2.2.on N (ρ.putO d0 (.str s0))))) _
  refine SM.of e ?_
  exact argsK_any k

def nameCells : List CVal := [.str [110, 111, 112], .str [112, 117, 115, 104], .str [108, 111, 97, 100], .str [115, 116, 111, 114, 101], .str [108, 111, 97, 100, 97, 116], .str [115, 116, 111, 114, 101, 97, 116], .str [108, 111, 99, 97, 108], .str [115, 101, 116, 108, 111, 99, 97, 108], .str [97, 100, 100], .str [115, 117, 98], .str [109, 117, 108], .str [100, 105, 118], .str [109, 111, 100], .str [110, 101, 103], .str [101, 113], .str [110, 101], .str [108, 116], .str [108, 101], .str [103, 116], .str [103, 101], .str [97, 110, 100], .str [111, 114], .str [110, 111, 116], .str [106, 117, 109, 112], .str [106, 117, 109, 112, 122, 101, 114, 111], .str [99, 97, 108, 108], .str [114, 101, 116], .str [102, 111, 114, 107], .str [106, 111, 105, 110], .str [112], .str [118], .str [101, 110, 116, 101, 114], .str [97, 119, 97, 105, 116], .str [108, 101, 97, 118, 101], .str [114, 101, 113, 117, 101, 115, 116], .str [114, 101, 108, 101, 97, 115, 101], .str [114, 101, 97, 100], .str [119, 114, 105, 116, 101]]
theorem nameCells_eq : nameCells = (opNames.drop 1).map CVal.str := by kernel_rfl

theorem cells38 {k : Nat} (h1 : 1 ≤ k) (h2 : k < 39) : nameCells[0 + ((k : Int) - 1).toNat * 1]? = some (.str (opNames.getD k [])) := by
  obtain ⟨j, rfl⟩ : ∃ j, k = j + 1 := ⟨k - 1, by omega⟩
  have e1 : (((j + 1 : Nat) : Int) - 1) = (j : Int) := by omega
  rw [e1, nameCells_eq, at_str (l := opNames.drop 1) (show j < 38 by omega)]
  simp [List.getD]

/-- What comes behind the names. -/
def tail8 : CCode := match c8.code with
  | .seq _ (.seq (.region (_ :: os)) y) => .seq (.region os) y
  | _ => .skip

set_option maxHeartbeats 2000000 in
theorem tail8_ok {op : Int} {h : Heap} {Q : CVal → Heap → Prop} (hr : -9223372036854775808 ≤ op ∧ op ≤ 9223372036854775807) (q : ∀ h', Exd h h' → Q (.str (nm op)) h') :
    wC tt 15 tail8 (((argsE [.int .i64 op]).putO (some 2) (.str [])).putO (some 4) (.agg nameCells)) [] h (endE 15 [CRV.tmp 2] Q) := by
  have q1 : ∀ {h'}, Exd h h' → ∀ l, nm op = l → Q (.str l) h' := fun e l hl => hl ▸ q _ e
  (conv => whnf)
  show NEWN _ _
  refine NEWN.mk rfl ?_
  (conv => whnf)
  show SETN _ _ _ _ _ _
  refine SETN.mk (h.get_new_same _) (by rfl) (by decide) ?_
  generalize hcs : putCells _ _ _ = cs
  have hc : cs = nameCells := by rw [← hcs]; kernel_rfl
  clear hcs
  by_cases hi : isOp op
  · obtain ⟨k, rfl, h1, h2⟩ := isOp_nat hi
    have e2 : cs[0 + ((k : Int) - 1).toNat * 1]? = some (.str (opNames.getD k [])) := by rw [hc]; exact cells38 h1 h2
    clear hc
    (repeat' ((conv => whnf); (first | (refine AT.of e2 ?_) | (refine LTN.yes (by omega) ?_) | (refine LTN.no (by omega) ?_) | (refine LTN.mk (fun _ => ?_) (fun _ => ?_)) | (refine EQN.yes (by omega) ?_) | (refine EQN.no (by omega) ?_) | (refine EQN.mk (fun _ => ?_) (fun _ => ?_)) | (refine EQSN.yes (by first | rfl | assumption) ?_) | (refine EQSN.no (by first | decide | assumption) ?_) | (refine EQSN.mk (fun _ => ?_) (fun _ => ?_)) | (refine ARN.in (by omega) ?_) | (refine ARN.fits (by first | (apply u8_in; omega) | (apply i32_in; omega) | (apply u32_in; omega)) ?_) | (refine QUON.pos (by omega) ?_) | (refine REMN.pos (by omega) ?_) | (refine REMN.mk (by omega) ?_) | (show GETN _ _ _; refine GETN.mk (by ((repeat first | refine Heap.room_get ?_ | refine Heap.set_skip (by omega) ?_ | refine Heap.new_skip (by ((repeat first | apply Heap.nx_set | apply Heap.nx_new | apply Heap.nx_kill | apply Heap.nx_room); first | assumption | rfl)) (by omega) ?_ | refine Exd.skip (by assumption) (by omega) ?_); first | assumption | exact Heap.set_at (by omega) | exact Heap.new_at (by ((repeat first | apply Heap.nx_set | apply Heap.nx_new | apply Heap.nx_kill | apply Heap.nx_room); first | assumption | rfl)) (by omega))) ?_) | (show GETM _ _ _; refine GETM.mk (by ((repeat first | refine Heap.room_get ?_ | refine Heap.set_skip (by omega) ?_ | refine Heap.new_skip (by ((repeat first | apply Heap.nx_set | apply Heap.nx_new | apply Heap.nx_kill | apply Heap.nx_room); first | assumption | rfl)) (by omega) ?_ | refine Exd.skip (by assumption) (by omega) ?_); first | assumption | exact Heap.set_at (by omega) | exact Heap.new_at (by ((repeat first | apply Heap.nx_set | apply Heap.nx_new | apply Heap.nx_kill | apply Heap.nx_room); first | assumption | rfl)) (by omega))) ?_) | (show NEWN _ _; refine NEWN.mk (by ((repeat first | apply Heap.nx_set | apply Heap.nx_new | apply Heap.nx_kill | apply Heap.nx_room); first | assumption | rfl)) ?_) | (show SETN _ _ _ _ _ _; refine SETN.mk (by ((repeat first | refine Heap.room_get ?_ | refine Heap.set_skip (by omega) ?_ | refine Heap.new_skip (by ((repeat first | apply Heap.nx_set | apply Heap.nx_new | apply Heap.nx_kill | apply Heap.nx_room); first | assumption | rfl)) (by omega) ?_ | refine Exd.skip (by assumption) (by omega) ?_); first | assumption | exact Heap.set_at (by omega) | exact Heap.new_at (by ((repeat first | apply Heap.nx_set | apply Heap.nx_new | apply Heap.nx_kill | apply Heap.nx_room); first | assumption | rfl)) (by omega))) (by rfl) (by (first | decide | (simp; done) | (simp; omega))) ?_) | (show DOESN _ _; refine DOESN.mk (by first | rfl | omega | (simp; done) | (simp; omega)) ?_) | (refine BC.yes (by assumption) ?_) | (refine BC.no (by assumption) ?_) | (refine BC.split (fun _ => ?_) (fun _ => ?_)) | (refine SOMEN.mk (by rfl) ?_) | (refine scopeC ?_) | (refine drawC0 (hist := fun _ => Heap.empty 0) rfl ?_) | (refine drawC (hist := fun _ => Heap.empty 0) rfl ?_) | (show NUMN _ _; refine NUMN.mk (by ((repeat first | apply Heap.nx_set | apply Heap.nx_new | apply Heap.nx_kill | apply Heap.nx_room); first | assumption | rfl)) ?_) | (show LOOKN _ _ _ _ _ _; refine LOOKN.mk (by first | exact QV.load rfl (by ((repeat first | refine Heap.room_get ?_ | refine Heap.set_skip (by omega) ?_ | refine Heap.new_skip (by ((repeat first | apply Heap.nx_set | apply Heap.nx_new | apply Heap.nx_kill | apply Heap.nx_room); first | assumption | rfl)) (by omega) ?_ | refine Exd.skip (by assumption) (by omega) ?_); first | assumption | exact Heap.set_at (by omega) | exact Heap.new_at (by ((repeat first | apply Heap.nx_set | apply Heap.nx_new | apply Heap.nx_kill | apply Heap.nx_room); first | assumption | rfl)) (by omega))) (by rfl) | exact QV.loadA rfl (by ((repeat first | refine Heap.room_get ?_ | refine Heap.set_skip (by omega) ?_ | refine Heap.new_skip (by ((repeat first | apply Heap.nx_set | apply Heap.nx_new | apply Heap.nx_kill | apply Heap.nx_room); first | assumption | rfl)) (by omega) ?_ | refine Exd.skip (by assumption) (by omega) ?_); first | assumption | exact Heap.set_at (by omega) | exact Heap.new_at (by ((repeat first | apply Heap.nx_set | apply Heap.nx_new | apply Heap.nx_kill | apply Heap.nx_room); first | assumption | rfl)) (by omega))) (by rfl) (by rfl)) ?_) | fail)))
    exact q1 (by (repeat' first | exact Exd.refl _ | assumption | refine Exd.new ?_ | refine Exd.set ?_ (by omega) | refine Exd.kill ?_ (by omega))) _ (nm_nat h1 h2)
  · clear hc
    unfold isOp at hi
    (repeat' ((conv => whnf); (first | (refine LTN.yes (by omega) ?_) | (refine LTN.no (by omega) ?_) | (refine LTN.mk (fun _ => ?_) (fun _ => ?_)) | (refine EQN.yes (by omega) ?_) | (refine EQN.no (by omega) ?_) | (refine EQN.mk (fun _ => ?_) (fun _ => ?_)) | (refine EQSN.yes (by first | rfl | assumption) ?_) | (refine EQSN.no (by first | decide | assumption) ?_) | (refine EQSN.mk (fun _ => ?_) (fun _ => ?_)) | (refine ARN.in (by omega) ?_) | (refine ARN.fits (by first | (apply u8_in; omega) | (apply i32_in; omega) | (apply u32_in; omega)) ?_) | (refine QUON.pos (by omega) ?_) | (refine REMN.pos (by omega) ?_) | (refine REMN.mk (by omega) ?_) | (show GETN _ _ _; refine GETN.mk (by ((repeat first | refine Heap.room_get ?_ | refine Heap.set_skip (by omega) ?_ | refine Heap.new_skip (by ((repeat first | apply Heap.nx_set | apply Heap.nx_new | apply Heap.nx_kill | apply Heap.nx_room); first | assumption | rfl)) (by omega) ?_ | refine Exd.skip (by assumption) (by omega) ?_); first | assumption | exact Heap.set_at (by omega) | exact Heap.new_at (by ((repeat first | apply Heap.nx_set | apply Heap.nx_new | apply Heap.nx_kill | apply Heap.nx_room); first | assumption | rfl)) (by omega))) ?_) | (show GETM _ _ _; refine GETM.mk (by ((repeat first | refine Heap.room_get ?_ | refine Heap.set_skip (by omega) ?_ | refine Heap.new_skip (by ((repeat first | apply Heap.nx_set | apply Heap.nx_new | apply Heap.nx_kill | apply Heap.nx_room); first | assumption | rfl)) (by omega) ?_ | refine Exd.skip (by assumption) (by omega) ?_); first | assumption | exact Heap.set_at (by omega) | exact Heap.new_at (by ((repeat first | apply Heap.nx_set | apply Heap.nx_new | apply Heap.nx_kill | apply Heap.nx_room); first | assumption | rfl)) (by omega))) ?_) | (show NEWN _ _; refine NEWN.mk (by ((repeat first | apply Heap.nx_set | apply Heap.nx_new | apply Heap.nx_kill | apply Heap.nx_room); first | assumption | rfl)) ?_) | (show SETN _ _ _ _ _ _; refine SETN.mk (by ((repeat first | refine Heap.room_get ?_ | refine Heap.set_skip (by omega) ?_ | refine Heap.new_skip (by ((repeat first | apply Heap.nx_set | apply Heap.nx_new | apply Heap.nx_kill | apply Heap.nx_room); first | assumption | rfl)) (by omega) ?_ | refine Exd.skip (by assumption) (by omega) ?_); first | assumption | exact Heap.set_at (by omega) | exact Heap.new_at (by ((repeat first | apply Heap.nx_set | apply Heap.nx_new | apply Heap.nx_kill | apply Heap.nx_room); first | assumption | rfl)) (by omega))) (by rfl) (by (first | decide | (simp; done) | (simp; omega))) ?_) | (show DOESN _ _; refine DOESN.mk (by first | rfl | omega | (simp; done) | (simp; omega)) ?_) | (refine BC.yes (by assumption) ?_) | (refine BC.no (by assumption) ?_) | (refine BC.split (fun _ => ?_) (fun _ => ?_)) | (refine SOMEN.mk (by rfl) ?_) | (refine scopeC ?_) | (refine drawC0 (hist := fun _ => Heap.empty 0) rfl ?_) | (refine drawC (hist := fun _ => Heap.empty 0) rfl ?_) | (show NUMN _ _; refine NUMN.mk (by ((repeat first | apply Heap.nx_set | apply Heap.nx_new | apply Heap.nx_kill | apply Heap.nx_room); first | assumption | rfl)) ?_) | (show LOOKN _ _ _ _ _ _; refine LOOKN.mk (by first | exact QV.load rfl (by ((repeat first | refine Heap.room_get ?_ | refine Heap.set_skip (by omega) ?_ | refine Heap.new_skip (by ((repeat first | apply Heap.nx_set | apply Heap.nx_new | apply Heap.nx_kill | apply Heap.nx_room); first | assumption | rfl)) (by omega) ?_ | refine Exd.skip (by assumption) (by omega) ?_); first | assumption | exact Heap.set_at (by omega) | exact Heap.new_at (by ((repeat first | apply Heap.nx_set | apply Heap.nx_new | apply Heap.nx_kill | apply Heap.nx_room); first | assumption | rfl)) (by omega))) (by rfl) | exact QV.loadA rfl (by ((repeat first | refine Heap.room_get ?_ | refine Heap.set_skip (by omega) ?_ | refine Heap.new_skip (by ((repeat first | apply Heap.nx_set | apply Heap.nx_new | apply Heap.nx_kill | apply Heap.nx_room); first | assumption | rfl)) (by omega) ?_ | refine Exd.skip (by assumption) (by omega) ?_); first | assumption | exact Heap.set_at (by omega) | exact Heap.new_at (by ((repeat first | apply Heap.nx_set | apply Heap.nx_new | apply Heap.nx_kill | apply Heap.nx_room); first | assumption | rfl)) (by omega))) (by rfl) (by rfl)) ?_) | fail)))
    all_goals first
      | exact q1 (by (repeat' first | exact Exd.refl _ | assumption | refine Exd.new ?_ | refine Exd.set ?_ (by omega) | refine Exd.kill ?_ (by omega))) _ (nm_none (by unfold isOp; omega))
      | skip
    all_goals (exfalso; omega)

section
attribute [local irreducible] wC
theorem nameR_cal {op : Int} {h : Heap} {Q : CVal → Heap → Prop} (hr : -9223372036854775808 ≤ op ∧ op ≤ 9223372036854775807) (q : ∀ h', Exd h h' → Q (.str (nm op)) h') : Cal tt 8 [.int .i64 op] h Q := by
  have e : tt.code 8 = some c8 := rfl
  refine Cal.run2 rfl e rfl ?_
  refine wC_build (cs := nameCells) (by kernel_rfl) ?_
  exact tail8_ok hr q
end
end Go.Proofs.YtaipbioapbgcnaaDoor.Cm
