/-
  The functions that this seat's laws reach, each as a clean function, and that it is the program's.
-/
import Derived.Test.YthdeoeokjmmnbaaDoorCmS1
import Derived.Test.YthdeoeokjmmnbaaDoorCmC
import Derived.Test.YthdeoeokjmmnbaaDoorCmZ
namespace Go.Proofs.YthdeoeokjmmnbaaDoor.Cm
def ft : FT := (.node 13 c13 (.node 8 c8 (.node 5 c5 (.node 4 c4 (.node 3 c3 .leaf .leaf) .leaf) (.node 7 c7 (.node 6 c6 .leaf .leaf) .leaf)) (.node 11 c11 (.node 10 c10 (.node 9 c9 .leaf .leaf) .leaf) (.node 12 c12 .leaf .leaf))) (.node 20 c20 (.node 16 c16 (.node 15 c15 (.node 14 c14 .leaf .leaf) .leaf) (.node 18 c18 (.node 17 c17 .leaf .leaf) .leaf)) (.node 24 c24 (.node 23 c23 (.node 22 c22 .leaf .leaf) .leaf) (.node 26 c26 .leaf .leaf))))
theorem ft_ok : ft.Ok prog glb := ⟨compFunc_R mixed rfl ok13, ⟨compFunc_R mixed rfl ok8, ⟨compFunc_R mixed rfl ok5, ⟨compFunc_R mixed rfl ok4, ⟨compFunc_R mixed rfl ok3, trivial, trivial⟩, trivial⟩, ⟨compFunc_R mixed rfl ok7, ⟨compFunc_R mixed rfl ok6, trivial, trivial⟩, trivial⟩⟩, ⟨compFunc_R mixed rfl ok11, ⟨compFunc_R mixed rfl ok10, ⟨compFunc_R mixed rfl ok9, trivial, trivial⟩, trivial⟩, ⟨compFunc_R mixed rfl ok12, trivial, trivial⟩⟩⟩, ⟨compFunc_R mixed rfl ok20, ⟨compFunc_R mixed rfl ok16, ⟨compFunc_R mixed rfl ok15, ⟨compFunc_R mixed rfl ok14, trivial, trivial⟩, trivial⟩, ⟨compFunc_R mixed rfl ok18, ⟨compFunc_R mixed rfl ok17, trivial, trivial⟩, trivial⟩⟩, ⟨compFunc_R mixed rfl ok24, ⟨compFunc_R mixed rfl ok23, ⟨compFunc_R mixed rfl ok22, trivial, trivial⟩, trivial⟩, ⟨compFunc_R mixed rfl ok26, trivial, trivial⟩⟩⟩⟩
def rounds : List (Nat × Nat × RoundC) := [(9, 0, r9_0)]
abbrev tab0 : Tab := ft.tabR rounds
theorem tabOk : TabOk prog glb tab0 := FT.tabR_ok ft_ok ⟨compRound_R mixed rfl okr9_0, trivial⟩
def isTrue : Option (CVal × Heap) → Bool
  | some (.bool true, _) => true
  | _ => false
end Go.Proofs.YthdeoeokjmmnbaaDoor.Cm
