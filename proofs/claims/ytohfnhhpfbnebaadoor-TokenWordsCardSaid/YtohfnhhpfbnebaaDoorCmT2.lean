/-
  The functions that this seat's laws reach, each as a clean function, and that it is the program's.
-/
import Derived.Test.YtohfnhhpfbnebaaDoorCmT1
import Derived.Test.YtohfnhhpfbnebaaDoorCmC
namespace Go.Proofs.YtohfnhhpfbnebaaDoor.Cm
def ft : FT := (.node 15 c15 (.node 7 c7 (.node 5 c5 (.node 4 c4 (.node 3 c3 .leaf .leaf) .leaf) (.node 6 c6 .leaf .leaf)) (.node 11 c11 (.node 9 c9 (.node 8 c8 .leaf .leaf) .leaf) (.node 12 c12 .leaf .leaf))) (.node 21 c21 (.node 19 c19 (.node 18 c18 (.node 17 c17 .leaf .leaf) .leaf) (.node 20 c20 .leaf .leaf)) (.node 27 c27 (.node 25 c25 (.node 24 c24 .leaf .leaf) .leaf) (.node 33 c33 .leaf .leaf))))
theorem ft_ok : ft.Ok prog glb := ⟨compFunc_R mixed ok15, ⟨compFunc_R mixed ok7, ⟨compFunc_R mixed ok5, ⟨compFunc_R mixed ok4, ⟨compFunc_R mixed ok3, trivial, trivial⟩, trivial⟩, ⟨compFunc_R mixed ok6, trivial, trivial⟩⟩, ⟨compFunc_R mixed ok11, ⟨compFunc_R mixed ok9, ⟨compFunc_R mixed ok8, trivial, trivial⟩, trivial⟩, ⟨compFunc_R mixed ok12, trivial, trivial⟩⟩⟩, ⟨compFunc_R mixed ok21, ⟨compFunc_R mixed ok19, ⟨compFunc_R mixed ok18, ⟨compFunc_R mixed ok17, trivial, trivial⟩, trivial⟩, ⟨compFunc_R mixed ok20, trivial, trivial⟩⟩, ⟨compFunc_R mixed ok27, ⟨compFunc_R mixed ok25, ⟨compFunc_R mixed ok24, trivial, trivial⟩, trivial⟩, ⟨compFunc_R mixed ok33, trivial, trivial⟩⟩⟩⟩
theorem tabOk : TabOk prog glb ft.tab := FT.tab_ok ft_ok
def isTrue : Option (CVal × Heap) → Bool
  | some (.bool true, _) => true
  | _ => false
end Go.Proofs.YtohfnhhpfbnebaaDoor.Cm
