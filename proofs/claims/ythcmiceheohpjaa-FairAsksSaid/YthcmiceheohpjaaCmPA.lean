/-
  The table with what is known of the two 'awake'.
-/
import Derived.Test.YthcmiceheohpjaaCmYA
import Derived.Test.YthcmiceheohpjaaCmP2
namespace Go.Proofs.Ythcmiceheohpjaa.Cm
open Go.RowKit

theorem awake34 : isTrue (callF ft.tab 2000 15 [] (Heap.empty glb)) = true := by kernel_rfl
theorem awake3 : isTrue (callF ft.tab 2000 8 [] (Heap.empty glb)) = true := by kernel_rfl
theorem isTrue_of {x : Option (CVal × Heap)} (h : isTrue x = true) : ∃ h', x = some (.bool true, h') := by
  unfold isTrue at h
  split at h
  · exact ⟨_, rfl⟩
  · simp at h

def tt : Tab := (ft.tab.with 15 (closedP (.bool true))).with 8 (closedP (.bool true))
theorem tt_ok : TabOk prog glb tt := by
  obtain ⟨h1, e1⟩ := isTrue_of awake34
  obtain ⟨h2, e2⟩ := isTrue_of awake3
  exact (tabOk.with (closed_ok (callF_ok tabOk 2000) e1)).with (closed_ok (callF_ok tabOk 2000) e2)

theorem awake34_cal {h : Heap} {Q : CVal → Heap → Prop} (q : Q (.bool true) h) : Cal tt 15 [] h Q := Cal.prim (p := closedP (.bool true)) rfl rfl q
theorem awake3_cal {h : Heap} {Q : CVal → Heap → Prop} (q : Q (.bool true) h) : Cal tt 8 [] h Q := Cal.prim (p := closedP (.bool true)) rfl rfl q
end Go.Proofs.Ythcmiceheohpjaa.Cm
