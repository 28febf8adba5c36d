/-
  DERIVED. GIVEN WITH THE SEED: THE CARDS: each row of YtaipbioapbgcnaaDoorRows.lean that lists a variable, with what it lists TIED to the program's text (the seventh form; the later family's looks); each row that meets fmt, with fmt's text TOLD by the authors' own Lean function (tested against real Go, not proved from fmt's source: count such statements apart). THE CARD IS WHAT COUNTS. Prove the row's statement (the work); the ties are given (YtaipbioapbgcnaaDoorTie.lean); close each card by the builder's one call (the guide's Derived/Test/ToyasCard.lean, 'card_holds'). Laid BY PROGRAM, IN A SANDBOX (cutbox-door.mjs). By AI agents, Wed Nov 11 2026. No macro, syntax, notation, axiom, sorry.
-/
import Derived.Test.YtaipbioapbgcnaaDoorRows
import GoSem.ClaimSeven
namespace Go.Proofs.YtaipbioapbgcnaaDoor
namespace Rows

/-- THE TIED CARD OF 'signalboxlaw5.InstrAsks'. -/
def instrAsksCard : Claim7 := { stood := { row := instrAsksRow, standIns := [], harness := (true, "4d8a66c674cd1b984e348cf1866d070c98eb3b584cd5535741141b31c0a80791"), looks := true }, kinds := [], alts := [], laidByText := true, laidKinds := [.data, .data, .data, .data, .sentinel, .sentinel, .data, .data, .data, .data, .pinned], laidTests := true, laidLooks := .later }
def InstrAsksCardSaid : Prop := Claim7.holds Tryd.pinned (.plain (OpenSpec.ofChange instrAsksSpec)) instrAsksCard

/-- THE TIED CARD OF 'signalboxlaw5.InstrNames'. -/
def instrNamesCard : Claim7 := { stood := { row := instrNamesRow, standIns := [], harness := (true, "4d8a66c674cd1b984e348cf1866d070c98eb3b584cd5535741141b31c0a80791"), looks := true }, kinds := [], alts := [], laidByText := true, laidKinds := [.data, .data, .data, .data, .sentinel, .sentinel, .data, .data, .data, .data, .pinned], laidTests := true, laidLooks := .later }
def InstrNamesCardSaid : Prop := Claim7.holds Tryd.pinned (.plain (OpenSpec.ofChange instrNamesSpec)) instrNamesCard

/-- THE TIED CARD OF 'signalboxlaw5.InstrTexts'. -/
def instrTextsCard : Claim7 := { stood := { row := instrTextsRow, standIns := [], harness := (true, "4d8a66c674cd1b984e348cf1866d070c98eb3b584cd5535741141b31c0a80791"), looks := true }, kinds := [], alts := [], laidByText := true, laidKinds := [.data, .data, .data, .data, .sentinel, .sentinel, .data, .data, .data, .data, .pinned], laidTests := true, laidLooks := .later }
def InstrTextsCardSaid : Prop := Claim7.holds Tryd.pinned (.plain (OpenSpec.ofChange instrTextsSpec)) instrTextsCard

/-- THE TIED CARD OF 'signalboxlaw5.InstrReads'. -/
def instrReadsCard : Claim7 := { stood := { row := instrReadsRow, standIns := [], harness := (true, "4d8a66c674cd1b984e348cf1866d070c98eb3b584cd5535741141b31c0a80791"), looks := true }, kinds := [], alts := [], laidByText := true, laidKinds := [.data, .data, .data, .data, .sentinel, .sentinel, .data, .data, .data, .data, .pinned], laidTests := true, laidLooks := .later }
def InstrReadsCardSaid : Prop := Claim7.holds Tryd.pinned (.plain (OpenSpec.ofChange instrReadsSpec)) instrReadsCard

/-- THE SECOND FORM's CARD OF 'signalboxlaw5.InstrAsks'. -/
def instrAsksUptoCard : Claim7 := { stood := { row := instrAsksUptoRow, standIns := [], harness := (true, "4d8a66c674cd1b984e348cf1866d070c98eb3b584cd5535741141b31c0a80791"), looks := true }, kinds := [], alts := [], laidByText := true, laidKinds := [.data, .data, .data, .data, .sentinel, .sentinel, .data, .data, .data, .data, .pinned], laidTests := true, laidLooks := .later }
def InstrAsksUptoCardSaid : Prop := Claim7.holds Tryd.pinned (.plain (OpenSpec.upto instrAsksSpec)) instrAsksUptoCard

/-- THE SECOND FORM's CARD OF 'signalboxlaw5.InstrNames'. -/
def instrNamesUptoCard : Claim7 := { stood := { row := instrNamesUptoRow, standIns := [], harness := (true, "4d8a66c674cd1b984e348cf1866d070c98eb3b584cd5535741141b31c0a80791"), looks := true }, kinds := [], alts := [], laidByText := true, laidKinds := [.data, .data, .data, .data, .sentinel, .sentinel, .data, .data, .data, .data, .pinned], laidTests := true, laidLooks := .later }
def InstrNamesUptoCardSaid : Prop := Claim7.holds Tryd.pinned (.plain (OpenSpec.upto instrNamesSpec)) instrNamesUptoCard

/-- THE SECOND FORM's CARD OF 'signalboxlaw5.InstrTexts'. -/
def instrTextsUptoCard : Claim7 := { stood := { row := instrTextsUptoRow, standIns := [], harness := (true, "4d8a66c674cd1b984e348cf1866d070c98eb3b584cd5535741141b31c0a80791"), looks := true }, kinds := [], alts := [], laidByText := true, laidKinds := [.data, .data, .data, .data, .sentinel, .sentinel, .data, .data, .data, .data, .pinned], laidTests := true, laidLooks := .later }
def InstrTextsUptoCardSaid : Prop := Claim7.holds Tryd.pinned (.plain (OpenSpec.upto instrTextsSpec)) instrTextsUptoCard

/-- THE SECOND FORM's CARD OF 'signalboxlaw5.InstrReads'. -/
def instrReadsUptoCard : Claim7 := { stood := { row := instrReadsUptoRow, standIns := [], harness := (true, "4d8a66c674cd1b984e348cf1866d070c98eb3b584cd5535741141b31c0a80791"), looks := true }, kinds := [], alts := [], laidByText := true, laidKinds := [.data, .data, .data, .data, .sentinel, .sentinel, .data, .data, .data, .data, .pinned], laidTests := true, laidLooks := .later }
def InstrReadsUptoCardSaid : Prop := Claim7.holds Tryd.pinned (.plain (OpenSpec.upto instrReadsSpec)) instrReadsUptoCard
end Rows
end Go.Proofs.YtaipbioapbgcnaaDoor
