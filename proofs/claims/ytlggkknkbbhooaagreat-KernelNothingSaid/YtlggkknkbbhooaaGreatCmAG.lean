/-
  The laws of audit and kernel: what is known of the two 'awake'.
-/
import Derived.Test.YtlggkknkbbhooaaGreatCmAFg
import Derived.Test.YtlggkknkbbhooaaGreatCmZ
namespace Go.Proofs.YtlggkknkbbhooaaGreat.Cm
open Go Go.RowKit

theorem awake32K : isTrue (callF tg 6000 (fId 8) [] (Heap.empty 0)) = true := by kernel_rfl
theorem awake18K : isTrue (callF tg 6000 (fId 11) [] (Heap.empty 0)) = true := by kernel_rfl
theorem isTrue_of {x : Option (CVal × Heap)} (h : isTrue x = true) : ∃ h', x = some (.bool true, h') := by
  unfold isTrue at h
  split at h
  · exact ⟨_, rfl⟩
  · simp at h
def tt : Tab := (tg.with 8 (closedP (.bool true))).with 11 (closedP (.bool true))
theorem tt_ok : TabOk prog glb tt := by
  obtain ⟨h1, e1⟩ := isTrue_of awake32K
  obtain ⟨h2, e2⟩ := isTrue_of awake18K
  exact (tg_ok.with (closed_ok (callF_ok tg_ok 6000) e1)).with (closed_ok (callF_ok tg_ok 6000) e2)
theorem awake32_cal {h : Heap} {Q : CVal → Heap → Prop} (q : Q (.bool true) h) : Cal tt 8 [] h Q := Cal.prim (p := closedP (.bool true)) rfl rfl q
theorem awake18_cal {h : Heap} {Q : CVal → Heap → Prop} (q : Q (.bool true) h) : Cal tt 11 [] h Q := Cal.prim (p := closedP (.bool true)) rfl rfl q
end Go.Proofs.YtlggkknkbbhooaaGreat.Cm
