/-
  The functions that this seat's laws reach, each as a clean function, and that it is the program's.
-/
import Derived.Test.YtaipbioapbgcnaaDoorCmI1
import Derived.Test.YtaipbioapbgcnaaDoorCmC
namespace Go.Proofs.YtaipbioapbgcnaaDoor.Cm
def ft : FT := (.node 14 c14 (.node 8 c8 (.node 5 c5 (.node 4 c4 (.node 3 c3 .leaf .leaf) .leaf) (.node 7 c7 (.node 6 c6 .leaf .leaf) .leaf)) (.node 11 c11 (.node 10 c10 (.node 9 c9 .leaf .leaf) .leaf) (.node 13 c13 (.node 12 c12 .leaf .leaf) .leaf))) (.node 20 c20 (.node 17 c17 (.node 16 c16 (.node 15 c15 .leaf .leaf) .leaf) (.node 19 c19 (.node 18 c18 .leaf .leaf) .leaf)) (.node 23 c23 (.node 22 c22 (.node 21 c21 .leaf .leaf) .leaf) (.node 29 c29 (.node 28 c28 .leaf .leaf) .leaf))))
theorem ft_ok : ft.Ok prog glb := ⟨compFunc_R mixed ok14, ⟨compFunc_R mixed ok8, ⟨compFunc_R mixed ok5, ⟨compFunc_R mixed ok4, ⟨compFunc_R mixed ok3, trivial, trivial⟩, trivial⟩, ⟨compFunc_R mixed ok7, ⟨compFunc_R mixed ok6, trivial, trivial⟩, trivial⟩⟩, ⟨compFunc_R mixed ok11, ⟨compFunc_R mixed ok10, ⟨compFunc_R mixed ok9, trivial, trivial⟩, trivial⟩, ⟨compFunc_R mixed ok13, ⟨compFunc_R mixed ok12, trivial, trivial⟩, trivial⟩⟩⟩, ⟨compFunc_R mixed ok20, ⟨compFunc_R mixed ok17, ⟨compFunc_R mixed ok16, ⟨compFunc_R mixed ok15, trivial, trivial⟩, trivial⟩, ⟨compFunc_R mixed ok19, ⟨compFunc_R mixed ok18, trivial, trivial⟩, trivial⟩⟩, ⟨compFunc_R mixed ok23, ⟨compFunc_R mixed ok22, ⟨compFunc_R mixed ok21, trivial, trivial⟩, trivial⟩, ⟨compFunc_R mixed ok29, ⟨compFunc_R mixed ok28, trivial, trivial⟩, trivial⟩⟩⟩⟩
theorem tabOk : TabOk prog glb ft.tab := FT.tab_ok ft_ok
def isTrue : Option (CVal × Heap) → Bool
  | some (.bool true, _) => true
  | _ => false
end Go.Proofs.YtaipbioapbgcnaaDoor.Cm
