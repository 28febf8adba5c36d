/-
  No cell of these rows narrows 'for every input' (looked for: loops, veiled, ifaces, maps, wideKeys, modest, calm, conditions, laid).
  DERIVED. THE GIVEN ROWS OF THIS SEAT. 5 by the template 'for every input the law returns true; each argument reads behind the call as it read before'; 0 by the template 'total and deterministic' (their statements: YthcmiceheohpjaaTotals.lean).
  GIVEN WITH THE SEED: the statements are not yours to turn. If you find one false, say at which input.
  Laid BY PROGRAM, IN A SANDBOX (cutbox-rows.mjs): the forced cells as the released guide's own fill.sh prints them over the translation 4c58dbaf30fde398… (all of the seat's roots in one cut). By AI agents, Wed Nov 11 2026. No macro, syntax, notation, axiom, sorry.
-/
import Derived.Test.YthcmiceheohpjaaChecked
import GoSem.Claim
import GoSem.ClaimJoined
import GoSem.ClaimMapViews
import Derived.JoinedTies
import Derived.KernelRfl
namespace Go.Proofs.Ythcmiceheohpjaa
/- THE CELL 'sum', in the pinned program and in every row, IS THE sha256 OF THE DUMP (.gsa) THAT YthcmiceheohpjaaProg.lean LOADS. Nothing in Lean hashes anything: it is a label: what it is worth is what the hold of that sum in a sandbox is worth. -/
noncomputable def Try.pinned : Pinned := { name := "ythcmiceheohpjaa", sum := "4c58dbaf30fde398bf4cee2fc42230782dafbf57414d94eeb4e6cc6102378a4c", checked := Try.checked }
namespace Rows
def none {H : Type} : Left H := { results := [], args := [] }

/-- 'signalboxlaw3.SegsApart': WHATEVER THE INPUT: true; the input reads as it did. -/
def segsApartSpec : ChangeSpec := { name := "segsApart", fn := fun _ => fun
  | [d1, d2, d3] => { results := [.lit (.bool true)], args := [d1, d2, d3] }
  | _ => none }
def segsApartRow : OpenClaim := { program := "ythcmiceheohpjaa", sum := "4c58dbaf30fde398bf4cee2fc42230782dafbf57414d94eeb4e6cc6102378a4c", func := "signalbox/signalboxlaw3.SegsApart", spec := "segsApart", unfollowed := true, recurses := true, apart := false }
def SegsApartSaid : Prop := segsApartRow.holds Try.pinned (OpenSpec.ofChange segsApartSpec)

/-- ITS FALSE NEIGHBOUR: 'it returns false'. Refute it at one input. -/
def segsApartWrong : ChangeSpec := { name := "segsApart", fn := fun _ => fun
  | [d1, d2, d3] => { results := [.lit (.bool false)], args := [d1, d2, d3] }
  | _ => none }
def SegsApartWrongFalsely : Prop := segsApartRow.holds Try.pinned (OpenSpec.ofChange segsApartWrong)

/-- 'signalboxlaw3.SegsAgain': WHATEVER THE INPUT: true; the input reads as it did. -/
def segsAgainSpec : ChangeSpec := { name := "segsAgain", fn := fun _ => fun
  | [d1, d2, d3] => { results := [.lit (.bool true)], args := [d1, d2, d3] }
  | _ => none }
def segsAgainRow : OpenClaim := { program := "ythcmiceheohpjaa", sum := "4c58dbaf30fde398bf4cee2fc42230782dafbf57414d94eeb4e6cc6102378a4c", func := "signalbox/signalboxlaw3.SegsAgain", spec := "segsAgain", unfollowed := true, recurses := true, apart := false }
def SegsAgainSaid : Prop := segsAgainRow.holds Try.pinned (OpenSpec.ofChange segsAgainSpec)

/-- ITS FALSE NEIGHBOUR: 'it returns false'. Refute it at one input. -/
def segsAgainWrong : ChangeSpec := { name := "segsAgain", fn := fun _ => fun
  | [d1, d2, d3] => { results := [.lit (.bool false)], args := [d1, d2, d3] }
  | _ => none }
def SegsAgainWrongFalsely : Prop := segsAgainRow.holds Try.pinned (OpenSpec.ofChange segsAgainWrong)

/-- 'signalboxlaw3.SegsNothing': WHATEVER THE INPUT: true; the input reads as it did. -/
def segsNothingSpec : ChangeSpec := { name := "segsNothing", fn := fun _ => fun
  | [d1, d2, d3] => { results := [.lit (.bool true)], args := [d1, d2, d3] }
  | _ => none }
def segsNothingRow : OpenClaim := { program := "ythcmiceheohpjaa", sum := "4c58dbaf30fde398bf4cee2fc42230782dafbf57414d94eeb4e6cc6102378a4c", func := "signalbox/signalboxlaw3.SegsNothing", spec := "segsNothing", unfollowed := true, recurses := true, apart := false }
def SegsNothingSaid : Prop := segsNothingRow.holds Try.pinned (OpenSpec.ofChange segsNothingSpec)

/-- ITS FALSE NEIGHBOUR: 'it returns false'. Refute it at one input. -/
def segsNothingWrong : ChangeSpec := { name := "segsNothing", fn := fun _ => fun
  | [d1, d2, d3] => { results := [.lit (.bool false)], args := [d1, d2, d3] }
  | _ => none }
def SegsNothingWrongFalsely : Prop := segsNothingRow.holds Try.pinned (OpenSpec.ofChange segsNothingWrong)

/-- 'signalboxlaw34.FairAsks': WHATEVER THE INPUT: true; the input reads as it did. -/
def fairAsksSpec : ChangeSpec := { name := "fairAsks", fn := fun _ => fun
  | [d1, d2] => { results := [.lit (.bool true)], args := [d1, d2] }
  | _ => none }
def fairAsksRow : OpenClaim := { program := "ythcmiceheohpjaa", sum := "4c58dbaf30fde398bf4cee2fc42230782dafbf57414d94eeb4e6cc6102378a4c", func := "signalbox/signalboxlaw34.FairAsks", spec := "fairAsks", unfollowed := true, recurses := true, apart := false }
def FairAsksSaid : Prop := fairAsksRow.holds Try.pinned (OpenSpec.ofChange fairAsksSpec)

/-- ITS FALSE NEIGHBOUR: 'it returns false'. Refute it at one input. -/
def fairAsksWrong : ChangeSpec := { name := "fairAsks", fn := fun _ => fun
  | [d1, d2] => { results := [.lit (.bool false)], args := [d1, d2] }
  | _ => none }
def FairAsksWrongFalsely : Prop := fairAsksRow.holds Try.pinned (OpenSpec.ofChange fairAsksWrong)

/-- 'signalboxlaw34.FairBounds': WHATEVER THE INPUT: true; the input reads as it did. -/
def fairBoundsSpec : ChangeSpec := { name := "fairBounds", fn := fun _ => fun
  | [d1, d2, d3, d4] => { results := [.lit (.bool true)], args := [d1, d2, d3, d4] }
  | _ => none }
def fairBoundsRow : OpenClaim := { program := "ythcmiceheohpjaa", sum := "4c58dbaf30fde398bf4cee2fc42230782dafbf57414d94eeb4e6cc6102378a4c", func := "signalbox/signalboxlaw34.FairBounds", spec := "fairBounds", unfollowed := true, recurses := true, apart := false }
def FairBoundsSaid : Prop := fairBoundsRow.holds Try.pinned (OpenSpec.ofChange fairBoundsSpec)

/-- ITS FALSE NEIGHBOUR: 'it returns false'. Refute it at one input. -/
def fairBoundsWrong : ChangeSpec := { name := "fairBounds", fn := fun _ => fun
  | [d1, d2, d3, d4] => { results := [.lit (.bool false)], args := [d1, d2, d3, d4] }
  | _ => none }
def FairBoundsWrongFalsely : Prop := fairBoundsRow.holds Try.pinned (OpenSpec.ofChange fairBoundsWrong)

/- THE SECOND FORM. 'bulk': how many values and letters a reading holds, each counted each time it is reached (what is shared counts as often as it is met; a slice's spare places count too). A statement '..UptoSaid' is the law's where the arguments, and the package variables that the reading takes, are together of bulk at most 1048576: NARROWER than '..Said'. Prove '..Said' where nothing that the law and all that it calls make is longer than what came in: it says more and counts as full. Else prove '..UptoSaid'. A law counts once. -/
mutual
def uptoBulk {H : Type} : DataW H → Nat
  | .lit (.string bytes) => bytes.length + 1
  | .lit _ => 1
  | .nil => 1
  | .ptr d => uptoBulk d + 1
  | .slice elems spare => uptoBulkAll elems + uptoBulkAll spare + 1
  | .agg parts => uptoBulkAll parts + 1
  | .iface _ d => uptoBulk d + 1
  | .map entries => uptoBulkEntries entries + 1
  | .held _ => 1
def uptoBulkAll {H : Type} : List (DataW H) → Nat
  | [] => 0
  | d :: r => uptoBulk d + uptoBulkAll r
def uptoBulkEntries {H : Type} : List (Lit × DataW H) → Nat
  | [] => 0
  | x :: r => uptoBulkEntry x + uptoBulkEntries r
def uptoBulkEntry {H : Type} : Lit × DataW H → Nat
  | (.string bytes, d) => bytes.length + uptoBulk d + 1
  | (_, d) => uptoBulk d + 1
 end
def uptoSmall : (H : Type) → List (DataW H) → Bool := fun _ ds => decide (uptoBulkAll ds ≤ 1048576)
def OpenSpec.upto (s : _root_.Go.ChangeSpec) : _root_.Go.OpenSpec := { _root_.Go.OpenSpec.ofChange s with cond := some uptoSmall }

/-- 'signalboxlaw3.SegsApart', WHERE WHAT IT READS IS OF BULK AT MOST 1048576: true; the input reads as it did. -/
def segsApartUptoRow : OpenClaim := { program := "ythcmiceheohpjaa", sum := "4c58dbaf30fde398bf4cee2fc42230782dafbf57414d94eeb4e6cc6102378a4c", func := "signalbox/signalboxlaw3.SegsApart", spec := "segsApart", unfollowed := true, recurses := true, apart := false, narrowed := true }
def SegsApartUptoSaid : Prop := segsApartUptoRow.holds Try.pinned (OpenSpec.upto segsApartSpec)

/-- 'signalboxlaw3.SegsAgain', WHERE WHAT IT READS IS OF BULK AT MOST 1048576: true; the input reads as it did. -/
def segsAgainUptoRow : OpenClaim := { program := "ythcmiceheohpjaa", sum := "4c58dbaf30fde398bf4cee2fc42230782dafbf57414d94eeb4e6cc6102378a4c", func := "signalbox/signalboxlaw3.SegsAgain", spec := "segsAgain", unfollowed := true, recurses := true, apart := false, narrowed := true }
def SegsAgainUptoSaid : Prop := segsAgainUptoRow.holds Try.pinned (OpenSpec.upto segsAgainSpec)

/-- 'signalboxlaw3.SegsNothing', WHERE WHAT IT READS IS OF BULK AT MOST 1048576: true; the input reads as it did. -/
def segsNothingUptoRow : OpenClaim := { program := "ythcmiceheohpjaa", sum := "4c58dbaf30fde398bf4cee2fc42230782dafbf57414d94eeb4e6cc6102378a4c", func := "signalbox/signalboxlaw3.SegsNothing", spec := "segsNothing", unfollowed := true, recurses := true, apart := false, narrowed := true }
def SegsNothingUptoSaid : Prop := segsNothingUptoRow.holds Try.pinned (OpenSpec.upto segsNothingSpec)

/-- 'signalboxlaw34.FairAsks', WHERE WHAT IT READS IS OF BULK AT MOST 1048576: true; the input reads as it did. -/
def fairAsksUptoRow : OpenClaim := { program := "ythcmiceheohpjaa", sum := "4c58dbaf30fde398bf4cee2fc42230782dafbf57414d94eeb4e6cc6102378a4c", func := "signalbox/signalboxlaw34.FairAsks", spec := "fairAsks", unfollowed := true, recurses := true, apart := false, narrowed := true }
def FairAsksUptoSaid : Prop := fairAsksUptoRow.holds Try.pinned (OpenSpec.upto fairAsksSpec)

/-- 'signalboxlaw34.FairBounds', WHERE WHAT IT READS IS OF BULK AT MOST 1048576: true; the input reads as it did. -/
def fairBoundsUptoRow : OpenClaim := { program := "ythcmiceheohpjaa", sum := "4c58dbaf30fde398bf4cee2fc42230782dafbf57414d94eeb4e6cc6102378a4c", func := "signalbox/signalboxlaw34.FairBounds", spec := "fairBounds", unfollowed := true, recurses := true, apart := false, narrowed := true }
def FairBoundsUptoSaid : Prop := fairBoundsUptoRow.holds Try.pinned (OpenSpec.upto fairBoundsSpec)

end Rows
end Go.Proofs.Ythcmiceheohpjaa
