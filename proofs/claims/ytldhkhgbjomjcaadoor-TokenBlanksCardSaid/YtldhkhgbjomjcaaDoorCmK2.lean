/-
  The functions that this seat's laws reach, each as a clean function, and that it is the program's.
-/
import Derived.Test.YtldhkhgbjomjcaaDoorCmK1
import Derived.Test.YtldhkhgbjomjcaaDoorCmC
import Derived.Test.YtldhkhgbjomjcaaDoorCmZ
namespace Go.Proofs.YtldhkhgbjomjcaaDoor.Cm
def ft : FT := (.node 26 c26 (.node 15 c15 (.node 9 c9 (.node 7 c7 (.node 6 c6 (.node 5 c5 .leaf .leaf) .leaf) (.node 8 c8 .leaf .leaf)) (.node 13 c13 (.node 12 c12 (.node 11 c11 .leaf .leaf) .leaf) (.node 14 c14 .leaf .leaf))) (.node 20 c20 (.node 18 c18 (.node 17 c17 (.node 16 c16 .leaf .leaf) .leaf) (.node 19 c19 .leaf .leaf)) (.node 23 c23 (.node 22 c22 (.node 21 c21 .leaf .leaf) .leaf) (.node 25 c25 .leaf .leaf)))) (.node 39 c39 (.node 33 c33 (.node 30 c30 (.node 28 c28 (.node 27 c27 .leaf .leaf) .leaf) (.node 32 c32 .leaf .leaf)) (.node 36 c36 (.node 35 c35 (.node 34 c34 .leaf .leaf) .leaf) (.node 38 c38 .leaf .leaf))) (.node 49 c49 (.node 45 c45 (.node 44 c44 (.node 40 c40 .leaf .leaf) .leaf) (.node 47 c47 .leaf .leaf)) (.node 56 c56 (.node 51 c51 (.node 50 c50 .leaf .leaf) .leaf) (.node 61 c61 .leaf .leaf)))))
theorem ft_ok : ft.Ok prog glb := ⟨compFunc_R mixed ok26, ⟨compFunc_R mixed ok15, ⟨compFunc_R mixed ok9, ⟨compFunc_R mixed ok7, ⟨compFunc_R mixed ok6, ⟨compFunc_R mixed ok5, trivial, trivial⟩, trivial⟩, ⟨compFunc_R mixed ok8, trivial, trivial⟩⟩, ⟨compFunc_R mixed ok13, ⟨compFunc_R mixed ok12, ⟨compFunc_R mixed ok11, trivial, trivial⟩, trivial⟩, ⟨compFunc_R mixed ok14, trivial, trivial⟩⟩⟩, ⟨compFunc_R mixed ok20, ⟨compFunc_R mixed ok18, ⟨compFunc_R mixed ok17, ⟨compFunc_R mixed ok16, trivial, trivial⟩, trivial⟩, ⟨compFunc_R mixed ok19, trivial, trivial⟩⟩, ⟨compFunc_R mixed ok23, ⟨compFunc_R mixed ok22, ⟨compFunc_R mixed ok21, trivial, trivial⟩, trivial⟩, ⟨compFunc_R mixed ok25, trivial, trivial⟩⟩⟩⟩, ⟨compFunc_R mixed ok39, ⟨compFunc_R mixed ok33, ⟨compFunc_R mixed ok30, ⟨compFunc_R mixed ok28, ⟨compFunc_R mixed ok27, trivial, trivial⟩, trivial⟩, ⟨compFunc_R mixed ok32, trivial, trivial⟩⟩, ⟨compFunc_R mixed ok36, ⟨compFunc_R mixed ok35, ⟨compFunc_R mixed ok34, trivial, trivial⟩, trivial⟩, ⟨compFunc_R mixed ok38, trivial, trivial⟩⟩⟩, ⟨compFunc_R mixed ok49, ⟨compFunc_R mixed ok45, ⟨compFunc_R mixed ok44, ⟨compFunc_R mixed ok40, trivial, trivial⟩, trivial⟩, ⟨compFunc_R mixed ok47, trivial, trivial⟩⟩, ⟨compFunc_R mixed ok56, ⟨compFunc_R mixed ok51, ⟨compFunc_R mixed ok50, trivial, trivial⟩, trivial⟩, ⟨compFunc_R mixed ok61, trivial, trivial⟩⟩⟩⟩⟩
theorem tabOk : TabOk prog glb ft.tab := FT.tab_ok ft_ok
def isTrue : Option (CVal × Heap) → Bool
  | some (.bool true, _) => true
  | _ => false
end Go.Proofs.YtldhkhgbjomjcaaDoor.Cm
