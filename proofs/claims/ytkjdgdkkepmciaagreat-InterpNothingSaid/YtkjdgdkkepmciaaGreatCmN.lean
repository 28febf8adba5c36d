/-
  The clean machine, and what the law's functions do in it: part N of this claim's own texts. No conditions.
-/
import Derived.Test.YtkjdgdkkepmciaaGreatCmH
import Derived.Test.YtkjdgdkkepmciaaGreatCmR
namespace Go.Proofs.YtkjdgdkkepmciaaGreat.Cm
open Go Go.RowKit
def isTrueB (r : O) : Bool := match r with
 | some (.bool b, _) => b
 | _ => false
theorem nothingK (pick : Int) : isTrueB (callK tg 6000 (fId 3) [.int .i64 pick] (Heap.empty 0)) = true := by kernel_rfl
theorem nothing_run (pick : Int) : ∃ h', callF tg 6000 (fId 3) [.int .i64 pick] (Heap.empty 0) = some (.bool true, h') := by
 have h := nothingK pick
 unfold isTrueB at h
 split at h
 ·next b h' e => exact ⟨h', h ▸ callK_ok tg 6000 _ _ _ _ e⟩
 ·cases h
end Go.Proofs.YtkjdgdkkepmciaaGreat.Cm
