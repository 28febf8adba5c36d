/-
  DERIVED. GIVEN WITH THE SEED: THE CARDS: each row of YtmppoknfekdbbaaDoorRows.lean that lists a variable, with what it lists TIED to the program's text (the seventh form; the later family's looks); each row that meets fmt, with fmt's text TOLD by the authors' own Lean function (tested against real Go, not proved from fmt's source: count such statements apart). THE CARD IS WHAT COUNTS. Prove the row's statement (the work); the ties are given (YtmppoknfekdbbaaDoorTie.lean); close each card by the builder's one call (the guide's Derived/Test/ToyasCard.lean, 'card_holds'). Laid BY PROGRAM, IN A SANDBOX (cutbox-door.mjs). By AI agents, Wed Nov 11 2026. No macro, syntax, notation, axiom, sorry.
-/
import Derived.Test.YtmppoknfekdbbaaDoorRows
import GoSem.ClaimSeven
namespace Go.Proofs.YtmppoknfekdbbaaDoor
namespace Rows

/-- THE TIED CARD OF 'signalboxlaw17.EventTexts'. -/
def eventTextsCard : Claim7 := { stood := { row := eventTextsRow, standIns := [], harness := (true, "5d239e3992308ee881aac988ee9c707d82c86ea11c471f8a77d0e0f42e4e298e"), looks := true }, kinds := [], alts := [], laidByText := true, laidKinds := [.data, .data, .data, .sentinel, .sentinel], laidTests := true, laidLooks := .later }
def EventTextsCardSaid : Prop := Claim7.holds Tryd.pinned (.plain (OpenSpec.ofChange eventTextsSpec)) eventTextsCard

/-- THE TIED CARD OF 'signalboxlaw17.EventReads'. -/
def eventReadsCard : Claim7 := { stood := { row := eventReadsRow, standIns := [], harness := (true, "5d239e3992308ee881aac988ee9c707d82c86ea11c471f8a77d0e0f42e4e298e"), looks := true }, kinds := [], alts := [], laidByText := true, laidKinds := [.data, .data, .data, .sentinel, .sentinel], laidTests := true, laidLooks := .later }
def EventReadsCardSaid : Prop := Claim7.holds Tryd.pinned (.plain (OpenSpec.ofChange eventReadsSpec)) eventReadsCard

/-- THE TIED CARD OF 'signalboxlaw17.EventLists'. -/
def eventListsCard : Claim7 := { stood := { row := eventListsRow, standIns := [], harness := (true, "5d239e3992308ee881aac988ee9c707d82c86ea11c471f8a77d0e0f42e4e298e"), looks := true }, kinds := [], alts := [], laidByText := true, laidKinds := [.data, .data, .data, .sentinel, .sentinel], laidTests := true, laidLooks := .later }
def EventListsCardSaid : Prop := Claim7.holds Tryd.pinned (.plain (OpenSpec.ofChange eventListsSpec)) eventListsCard

/-- THE SECOND FORM's CARD OF 'signalboxlaw17.EventTexts'. -/
def eventTextsUptoCard : Claim7 := { stood := { row := eventTextsUptoRow, standIns := [], harness := (true, "5d239e3992308ee881aac988ee9c707d82c86ea11c471f8a77d0e0f42e4e298e"), looks := true }, kinds := [], alts := [], laidByText := true, laidKinds := [.data, .data, .data, .sentinel, .sentinel], laidTests := true, laidLooks := .later }
def EventTextsUptoCardSaid : Prop := Claim7.holds Tryd.pinned (.plain (OpenSpec.upto eventTextsSpec)) eventTextsUptoCard

/-- THE SECOND FORM's CARD OF 'signalboxlaw17.EventReads'. -/
def eventReadsUptoCard : Claim7 := { stood := { row := eventReadsUptoRow, standIns := [], harness := (true, "5d239e3992308ee881aac988ee9c707d82c86ea11c471f8a77d0e0f42e4e298e"), looks := true }, kinds := [], alts := [], laidByText := true, laidKinds := [.data, .data, .data, .sentinel, .sentinel], laidTests := true, laidLooks := .later }
def EventReadsUptoCardSaid : Prop := Claim7.holds Tryd.pinned (.plain (OpenSpec.upto eventReadsSpec)) eventReadsUptoCard

/-- THE SECOND FORM's CARD OF 'signalboxlaw17.EventLists'. -/
def eventListsUptoCard : Claim7 := { stood := { row := eventListsUptoRow, standIns := [], harness := (true, "5d239e3992308ee881aac988ee9c707d82c86ea11c471f8a77d0e0f42e4e298e"), looks := true }, kinds := [], alts := [], laidByText := true, laidKinds := [.data, .data, .data, .sentinel, .sentinel], laidTests := true, laidLooks := .later }
def EventListsUptoCardSaid : Prop := Claim7.holds Tryd.pinned (.plain (OpenSpec.upto eventListsSpec)) eventListsUptoCard
end Rows
end Go.Proofs.YtmppoknfekdbbaaDoor
