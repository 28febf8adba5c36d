/-
  The functions that this seat's laws reach, each as a clean function, and that it is the program's.
-/
import Derived.Test.YtldhkhgbjomjcaaDoorCmK1
import Derived.Test.YtldhkhgbjomjcaaDoorCmC
namespace Go.Proofs.YtldhkhgbjomjcaaDoor.Cm
def ft : FT := (.node 21 c21 (.node 15 c15 (.node 8 c8 (.node 6 c6 (.node 3 c3 .leaf .leaf) (.node 7 c7 .leaf .leaf)) (.node 14 c14 (.node 9 c9 .leaf .leaf) .leaf)) (.node 18 c18 (.node 17 c17 (.node 16 c16 .leaf .leaf) .leaf) (.node 20 c20 (.node 19 c19 .leaf .leaf) .leaf))) (.node 35 c35 (.node 32 c32 (.node 30 c30 (.node 22 c22 .leaf .leaf) .leaf) (.node 34 c34 (.node 33 c33 .leaf .leaf) .leaf)) (.node 45 c45 (.node 44 c44 (.node 36 c36 .leaf .leaf) .leaf) (.node 56 c56 (.node 47 c47 .leaf .leaf) .leaf))))
theorem ft_ok : ft.Ok prog glb := ⟨compFunc_R mixed ok21, ⟨compFunc_R mixed ok15, ⟨compFunc_R mixed ok8, ⟨compFunc_R mixed ok6, ⟨compFunc_R mixed ok3, trivial, trivial⟩, ⟨compFunc_R mixed ok7, trivial, trivial⟩⟩, ⟨compFunc_R mixed ok14, ⟨compFunc_R mixed ok9, trivial, trivial⟩, trivial⟩⟩, ⟨compFunc_R mixed ok18, ⟨compFunc_R mixed ok17, ⟨compFunc_R mixed ok16, trivial, trivial⟩, trivial⟩, ⟨compFunc_R mixed ok20, ⟨compFunc_R mixed ok19, trivial, trivial⟩, trivial⟩⟩⟩, ⟨compFunc_R mixed ok35, ⟨compFunc_R mixed ok32, ⟨compFunc_R mixed ok30, ⟨compFunc_R mixed ok22, trivial, trivial⟩, trivial⟩, ⟨compFunc_R mixed ok34, ⟨compFunc_R mixed ok33, trivial, trivial⟩, trivial⟩⟩, ⟨compFunc_R mixed ok45, ⟨compFunc_R mixed ok44, ⟨compFunc_R mixed ok36, trivial, trivial⟩, trivial⟩, ⟨compFunc_R mixed ok56, ⟨compFunc_R mixed ok47, trivial, trivial⟩, trivial⟩⟩⟩⟩
theorem tabOk : TabOk prog glb ft.tab := FT.tab_ok ft_ok
def isTrue : Option (CVal × Heap) → Bool
  | some (.bool true, _) => true
  | _ => false
end Go.Proofs.YtldhkhgbjomjcaaDoor.Cm
