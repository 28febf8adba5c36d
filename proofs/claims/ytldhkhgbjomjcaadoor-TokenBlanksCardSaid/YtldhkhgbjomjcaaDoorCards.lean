/-
  DERIVED. GIVEN WITH THE SEED: THE CARDS: each row of YtldhkhgbjomjcaaDoorRows.lean that lists a variable, with what it lists TIED to the program's text (the seventh form; the later family's looks); each row that meets fmt, with fmt's text TOLD by the authors' own Lean function (tested against real Go, not proved from fmt's source: count such statements apart). THE CARD IS WHAT COUNTS. Prove the row's statement (the work); the ties are given (YtldhkhgbjomjcaaDoorTie.lean); close each card by the builder's one call (the guide's Derived/Test/ToyasCard.lean, 'card_holds'). Laid BY PROGRAM, IN A SANDBOX (cutbox-door.mjs). By AI agents, Wed Nov 11 2026. No macro, syntax, notation, axiom, sorry.
-/
import Derived.Test.YtldhkhgbjomjcaaDoorRows
import GoSem.ClaimSeven
namespace Go.Proofs.YtldhkhgbjomjcaaDoor
namespace Rows

/-- THE TIED CARD OF 'signalboxlaw21.TokenAll'. -/
def tokenAllCard : Claim7 := { stood := { row := tokenAllRow, standIns := [], harness := (true, "1e2468f17a88ed1f4f27397244ab35b93b3240be10d1f91fbd404041cd711274"), looks := true }, kinds := [], alts := [], laidByText := true, laidKinds := [.data, .data, .data, .sentinel, .sentinel, .listed, .data], laidTests := true, laidLooks := .later }
def TokenAllCardSaid : Prop := Claim7.holds Tryd.pinned (.plain (OpenSpec.ofChange tokenAllSpec)) tokenAllCard

/-- THE TIED CARD OF 'signalboxlaw21.TokenMade'. -/
def tokenMadeCard : Claim7 := { stood := { row := tokenMadeRow, standIns := [], harness := (true, "1e2468f17a88ed1f4f27397244ab35b93b3240be10d1f91fbd404041cd711274"), looks := true }, kinds := [], alts := [], laidByText := true, laidKinds := [.data, .data, .data, .sentinel, .sentinel, .listed, .data], laidTests := true, laidLooks := .later }
def TokenMadeCardSaid : Prop := Claim7.holds Tryd.pinned (.plain (OpenSpec.ofChange tokenMadeSpec)) tokenMadeCard

/-- THE TIED CARD OF 'signalboxlaw21.TokenBlanks'. -/
def tokenBlanksCard : Claim7 := { stood := { row := tokenBlanksRow, standIns := [], harness := (true, "1e2468f17a88ed1f4f27397244ab35b93b3240be10d1f91fbd404041cd711274"), looks := true }, kinds := [], alts := [], laidByText := true, laidKinds := [.data, .data, .data, .sentinel, .sentinel, .listed, .data], laidTests := true, laidLooks := .later }
def TokenBlanksCardSaid : Prop := Claim7.holds Tryd.pinned (.plain (OpenSpec.ofChange tokenBlanksSpec)) tokenBlanksCard

/-- THE SECOND FORM's CARD OF 'signalboxlaw21.TokenAll'. -/
def tokenAllUptoCard : Claim7 := { stood := { row := tokenAllUptoRow, standIns := [], harness := (true, "1e2468f17a88ed1f4f27397244ab35b93b3240be10d1f91fbd404041cd711274"), looks := true }, kinds := [], alts := [], laidByText := true, laidKinds := [.data, .data, .data, .sentinel, .sentinel, .listed, .data], laidTests := true, laidLooks := .later }
def TokenAllUptoCardSaid : Prop := Claim7.holds Tryd.pinned (.plain (OpenSpec.upto tokenAllSpec)) tokenAllUptoCard

/-- THE SECOND FORM's CARD OF 'signalboxlaw21.TokenMade'. -/
def tokenMadeUptoCard : Claim7 := { stood := { row := tokenMadeUptoRow, standIns := [], harness := (true, "1e2468f17a88ed1f4f27397244ab35b93b3240be10d1f91fbd404041cd711274"), looks := true }, kinds := [], alts := [], laidByText := true, laidKinds := [.data, .data, .data, .sentinel, .sentinel, .listed, .data], laidTests := true, laidLooks := .later }
def TokenMadeUptoCardSaid : Prop := Claim7.holds Tryd.pinned (.plain (OpenSpec.upto tokenMadeSpec)) tokenMadeUptoCard

/-- THE SECOND FORM's CARD OF 'signalboxlaw21.TokenBlanks'. -/
def tokenBlanksUptoCard : Claim7 := { stood := { row := tokenBlanksUptoRow, standIns := [], harness := (true, "1e2468f17a88ed1f4f27397244ab35b93b3240be10d1f91fbd404041cd711274"), looks := true }, kinds := [], alts := [], laidByText := true, laidKinds := [.data, .data, .data, .sentinel, .sentinel, .listed, .data], laidTests := true, laidLooks := .later }
def TokenBlanksUptoCardSaid : Prop := Claim7.holds Tryd.pinned (.plain (OpenSpec.upto tokenBlanksSpec)) tokenBlanksUptoCard
end Rows
end Go.Proofs.YtldhkhgbjomjcaaDoor
