/-
  The allocator's laws: what is known of 'awake'.
-/
import Derived.Test.YtncmoaggkdlkhaaCmAF
import Derived.Test.YtncmoaggkdlkhaaCmZ
namespace Go.Proofs.Ytncmoaggkdlkhaa.Cm
open Go Go.RowKit

theorem awakeK : isTrue (callF tl 6000 (fId 4) [] (Heap.empty 0)) = true := by kernel_rfl
theorem isTrue_of {x : Option (CVal × Heap)} (h : isTrue x = true) : ∃ h', x = some (.bool true, h') := by
  unfold isTrue at h
  split at h
  · exact ⟨_, rfl⟩
  · simp at h
def tt : Tab := tl.with 4 (closedP (.bool true))
theorem tt_ok : TabOk prog glb tt := by
  obtain ⟨h1, e1⟩ := isTrue_of awakeK
  exact tl_ok.with (closed_ok (callF_ok tl_ok 6000) e1)
theorem awake_cal {h : Heap} {Q : CVal → Heap → Prop} (q : Q (.bool true) h) : Cal tt 4 [] h Q := Cal.prim (p := closedP (.bool true)) rfl rfl q
end Go.Proofs.Ytncmoaggkdlkhaa.Cm
