/-
  The functions that this seat's laws reach, each as a clean function, and that it is the program's.
-/
import Derived.Test.YthcmiceheohpjaaCmP1
import Derived.Test.YthcmiceheohpjaaCmXT
namespace Go.Proofs.Ythcmiceheohpjaa.Cm
def ft : FT := (.node 21 c21 (.node 12 c12 (.node 7 c7 (.node 5 c5 (.node 4 c4 (.node 3 c3 .leaf .leaf) .leaf) (.node 6 c6 .leaf .leaf)) (.node 10 c10 (.node 9 c9 (.node 8 c8 .leaf .leaf) .leaf) (.node 11 c11 .leaf .leaf))) (.node 17 c17 (.node 15 c15 (.node 14 c14 (.node 13 c13 .leaf .leaf) .leaf) (.node 16 c16 .leaf .leaf)) (.node 19 c19 (.node 18 c18 .leaf .leaf) (.node 20 c20 .leaf .leaf)))) (.node 31 c31 (.node 26 c26 (.node 24 c24 (.node 23 c23 (.node 22 c22 .leaf .leaf) .leaf) (.node 25 c25 .leaf .leaf)) (.node 29 c29 (.node 28 c28 (.node 27 c27 .leaf .leaf) .leaf) (.node 30 c30 .leaf .leaf))) (.node 36 c36 (.node 34 c34 (.node 33 c33 (.node 32 c32 .leaf .leaf) .leaf) (.node 35 c35 .leaf .leaf)) (.node 38 c38 (.node 37 c37 .leaf .leaf) (.node 39 c39 .leaf .leaf)))))
theorem ft_ok : ft.Ok prog glb := ⟨compFunc_R mixed ok21, ⟨compFunc_R mixed ok12, ⟨compFunc_R mixed ok7, ⟨compFunc_R mixed ok5, ⟨compFunc_R mixed ok4, ⟨compFunc_R mixed ok3, trivial, trivial⟩, trivial⟩, ⟨compFunc_R mixed ok6, trivial, trivial⟩⟩, ⟨compFunc_R mixed ok10, ⟨compFunc_R mixed ok9, ⟨compFunc_R mixed ok8, trivial, trivial⟩, trivial⟩, ⟨compFunc_R mixed ok11, trivial, trivial⟩⟩⟩, ⟨compFunc_R mixed ok17, ⟨compFunc_R mixed ok15, ⟨compFunc_R mixed ok14, ⟨compFunc_R mixed ok13, trivial, trivial⟩, trivial⟩, ⟨compFunc_R mixed ok16, trivial, trivial⟩⟩, ⟨compFunc_R mixed ok19, ⟨compFunc_R mixed ok18, trivial, trivial⟩, ⟨compFunc_R mixed ok20, trivial, trivial⟩⟩⟩⟩, ⟨compFunc_R mixed ok31, ⟨compFunc_R mixed ok26, ⟨compFunc_R mixed ok24, ⟨compFunc_R mixed ok23, ⟨compFunc_R mixed ok22, trivial, trivial⟩, trivial⟩, ⟨compFunc_R mixed ok25, trivial, trivial⟩⟩, ⟨compFunc_R mixed ok29, ⟨compFunc_R mixed ok28, ⟨compFunc_R mixed ok27, trivial, trivial⟩, trivial⟩, ⟨compFunc_R mixed ok30, trivial, trivial⟩⟩⟩, ⟨compFunc_R mixed ok36, ⟨compFunc_R mixed ok34, ⟨compFunc_R mixed ok33, ⟨compFunc_R mixed ok32, trivial, trivial⟩, trivial⟩, ⟨compFunc_R mixed ok35, trivial, trivial⟩⟩, ⟨compFunc_R mixed ok38, ⟨compFunc_R mixed ok37, trivial, trivial⟩, ⟨compFunc_R mixed ok39, trivial, trivial⟩⟩⟩⟩⟩
theorem tabOk : TabOk prog glb ft.tab := FT.tab_ok ft_ok
def isTrue : Option (CVal × Heap) → Bool
  | some (.bool true, _) => true
  | _ => false
end Go.Proofs.Ythcmiceheohpjaa.Cm
