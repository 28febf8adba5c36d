/-
  DERIVED. GIVEN WITH THE SEED: THE CARDS: each row of YthdeoeokjmmnbaaDoorRows.lean that lists a variable, with what it lists TIED to the program's text (the seventh form; the later family's looks); each row that meets fmt, with fmt's text TOLD by the authors' own Lean function (tested against real Go, not proved from fmt's source: count such statements apart). THE CARD IS WHAT COUNTS. Prove the row's statement (the work); the ties are given (YthdeoeokjmmnbaaDoorTie.lean); close each card by the builder's one call (the guide's Derived/Test/ToyasCard.lean, 'card_holds'). Laid BY PROGRAM, IN A SANDBOX (cutbox-door.mjs). By AI agents, Wed Nov 11 2026. No macro, syntax, notation, axiom, sorry.
-/
import Derived.Test.YthdeoeokjmmnbaaDoorRows
import GoSem.ClaimSeven
namespace Go.Proofs.YthdeoeokjmmnbaaDoor
namespace Rows

/-- THE TIED CARD OF 'signalboxlaw33.ScriptTexts'. -/
def scriptTextsCard : Claim7 := { stood := { row := scriptTextsRow, standIns := [], harness := (true, "e89d853fee68bfd27a5ab23ac7dab88ae55057e6a8acaef9c32ed2a6e7d2b760"), looks := true }, kinds := [], alts := [], laidByText := true, laidKinds := [.data, .data, .data, .sentinel, .sentinel, .listed, .data], laidTests := true, laidLooks := .later }
def ScriptTextsCardSaid : Prop := Claim7.holds Tryd.pinned (.plain (OpenSpec.ofChange scriptTextsSpec)) scriptTextsCard

/-- THE TIED CARD OF 'signalboxlaw33.ScriptReads'. -/
def scriptReadsCard : Claim7 := { stood := { row := scriptReadsRow, standIns := [], harness := (true, "e89d853fee68bfd27a5ab23ac7dab88ae55057e6a8acaef9c32ed2a6e7d2b760"), looks := true }, kinds := [], alts := [], laidByText := true, laidKinds := [.data, .data, .data, .sentinel, .sentinel, .listed, .data], laidTests := true, laidLooks := .later }
def ScriptReadsCardSaid : Prop := Claim7.holds Tryd.pinned (.plain (OpenSpec.ofChange scriptReadsSpec)) scriptReadsCard

/-- THE TIED CARD OF 'signalboxlaw33.ScriptSpoilt'. -/
def scriptSpoiltCard : Claim7 := { stood := { row := scriptSpoiltRow, standIns := [], harness := (true, "e89d853fee68bfd27a5ab23ac7dab88ae55057e6a8acaef9c32ed2a6e7d2b760"), looks := true }, kinds := [], alts := [], laidByText := true, laidKinds := [.data, .data, .data, .sentinel, .sentinel, .listed, .data], laidTests := true, laidLooks := .later }
def ScriptSpoiltCardSaid : Prop := Claim7.holds Tryd.pinned (.plain (OpenSpec.ofChange scriptSpoiltSpec)) scriptSpoiltCard

/-- THE SECOND FORM's CARD OF 'signalboxlaw33.ScriptTexts'. -/
def scriptTextsUptoCard : Claim7 := { stood := { row := scriptTextsUptoRow, standIns := [], harness := (true, "e89d853fee68bfd27a5ab23ac7dab88ae55057e6a8acaef9c32ed2a6e7d2b760"), looks := true }, kinds := [], alts := [], laidByText := true, laidKinds := [.data, .data, .data, .sentinel, .sentinel, .listed, .data], laidTests := true, laidLooks := .later }
def ScriptTextsUptoCardSaid : Prop := Claim7.holds Tryd.pinned (.plain (OpenSpec.upto scriptTextsSpec)) scriptTextsUptoCard

/-- THE SECOND FORM's CARD OF 'signalboxlaw33.ScriptReads'. -/
def scriptReadsUptoCard : Claim7 := { stood := { row := scriptReadsUptoRow, standIns := [], harness := (true, "e89d853fee68bfd27a5ab23ac7dab88ae55057e6a8acaef9c32ed2a6e7d2b760"), looks := true }, kinds := [], alts := [], laidByText := true, laidKinds := [.data, .data, .data, .sentinel, .sentinel, .listed, .data], laidTests := true, laidLooks := .later }
def ScriptReadsUptoCardSaid : Prop := Claim7.holds Tryd.pinned (.plain (OpenSpec.upto scriptReadsSpec)) scriptReadsUptoCard

/-- THE SECOND FORM's CARD OF 'signalboxlaw33.ScriptSpoilt'. -/
def scriptSpoiltUptoCard : Claim7 := { stood := { row := scriptSpoiltUptoRow, standIns := [], harness := (true, "e89d853fee68bfd27a5ab23ac7dab88ae55057e6a8acaef9c32ed2a6e7d2b760"), looks := true }, kinds := [], alts := [], laidByText := true, laidKinds := [.data, .data, .data, .sentinel, .sentinel, .listed, .data], laidTests := true, laidLooks := .later }
def ScriptSpoiltUptoCardSaid : Prop := Claim7.holds Tryd.pinned (.plain (OpenSpec.upto scriptSpoiltSpec)) scriptSpoiltUptoCard
end Rows
end Go.Proofs.YthdeoeokjmmnbaaDoor
