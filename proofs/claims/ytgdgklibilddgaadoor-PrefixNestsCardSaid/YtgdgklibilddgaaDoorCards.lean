/-
  DERIVED. GIVEN WITH THE SEED: THE CARDS: each row of YtgdgklibilddgaaDoorRows.lean that lists a variable, with what it lists TIED to the program's text (the seventh form; the later family's looks); each row that meets fmt, with fmt's text TOLD by the authors' own Lean function (tested against real Go, not proved from fmt's source: count such statements apart). THE CARD IS WHAT COUNTS. Prove the row's statement (the work); the ties are given (YtgdgklibilddgaaDoorTie.lean); close each card by the builder's one call (the guide's Derived/Test/ToyasCard.lean, 'card_holds'). Laid BY PROGRAM, IN A SANDBOX (cutbox-door.mjs). By AI agents, Wed Nov 11 2026. No macro, syntax, notation, axiom, sorry.
-/
import Derived.Test.YtgdgklibilddgaaDoorRows
import GoSem.ClaimSeven
namespace Go.Proofs.YtgdgklibilddgaaDoor
namespace Rows

/-- THE TIED CARD OF 'platbooklaw02.AddrPrints'. -/
def addrPrintsCard : Claim7 := { stood := { row := addrPrintsRow, standIns := [], harness := (true, "8acac658d7cd304263055e0a07aeaf7d44527f8b548e8fb85c6e694884a5b712"), looks := true }, kinds := [], alts := [], laidByText := true, laidKinds := [.data, .data, .data, .data, .sentinel, .sentinel, .pinned], laidTests := true, laidLooks := .later }
def AddrPrintsCardSaid : Prop := Claim7.holds Tryd.pinned (.plain (OpenSpec.ofChange addrPrintsSpec)) addrPrintsCard

/-- THE TIED CARD OF 'platbooklaw02.AddrParses'. -/
def addrParsesCard : Claim7 := { stood := { row := addrParsesRow, standIns := [], harness := (true, "8acac658d7cd304263055e0a07aeaf7d44527f8b548e8fb85c6e694884a5b712"), looks := true }, kinds := [], alts := [], laidByText := true, laidKinds := [.data, .data, .data, .data, .sentinel, .sentinel, .pinned], laidTests := true, laidLooks := .later }
def AddrParsesCardSaid : Prop := Claim7.holds Tryd.pinned (.plain (OpenSpec.ofChange addrParsesSpec)) addrParsesCard

/-- THE TIED CARD OF 'platbooklaw02.AddrBytes'. -/
def addrBytesCard : Claim7 := { stood := { row := addrBytesRow, standIns := [], harness := (true, "8acac658d7cd304263055e0a07aeaf7d44527f8b548e8fb85c6e694884a5b712"), looks := true }, kinds := [], alts := [], laidByText := true, laidKinds := [.data, .data, .data, .data, .sentinel, .sentinel, .pinned], laidTests := true, laidLooks := .later }
def AddrBytesCardSaid : Prop := Claim7.holds Tryd.pinned (.plain (OpenSpec.ofChange addrBytesSpec)) addrBytesCard

/-- THE TIED CARD OF 'platbooklaw02.AddrSteps'. -/
def addrStepsCard : Claim7 := { stood := { row := addrStepsRow, standIns := [], harness := (true, "8acac658d7cd304263055e0a07aeaf7d44527f8b548e8fb85c6e694884a5b712"), looks := true }, kinds := [], alts := [], laidByText := true, laidKinds := [.data, .data, .data, .data, .sentinel, .sentinel, .pinned], laidTests := true, laidLooks := .later }
def AddrStepsCardSaid : Prop := Claim7.holds Tryd.pinned (.plain (OpenSpec.ofChange addrStepsSpec)) addrStepsCard

/-- THE TIED CARD OF 'platbooklaw03.PrefixNests'. -/
def prefixNestsCard : Claim7 := { stood := { row := prefixNestsRow, standIns := [], harness := (true, "8acac658d7cd304263055e0a07aeaf7d44527f8b548e8fb85c6e694884a5b712"), looks := true }, kinds := [], alts := [], laidByText := true, laidKinds := [.data, .data, .data, .data, .sentinel, .sentinel, .pinned], laidTests := true, laidLooks := .later }
def PrefixNestsCardSaid : Prop := Claim7.holds Tryd.pinned (.plain (OpenSpec.ofChange prefixNestsSpec)) prefixNestsCard

/-- THE SECOND FORM's CARD OF 'platbooklaw02.AddrPrints'. -/
def addrPrintsUptoCard : Claim7 := { stood := { row := addrPrintsUptoRow, standIns := [], harness := (true, "8acac658d7cd304263055e0a07aeaf7d44527f8b548e8fb85c6e694884a5b712"), looks := true }, kinds := [], alts := [], laidByText := true, laidKinds := [.data, .data, .data, .data, .sentinel, .sentinel, .pinned], laidTests := true, laidLooks := .later }
def AddrPrintsUptoCardSaid : Prop := Claim7.holds Tryd.pinned (.plain (OpenSpec.upto addrPrintsSpec)) addrPrintsUptoCard

/-- THE SECOND FORM's CARD OF 'platbooklaw02.AddrParses'. -/
def addrParsesUptoCard : Claim7 := { stood := { row := addrParsesUptoRow, standIns := [], harness := (true, "8acac658d7cd304263055e0a07aeaf7d44527f8b548e8fb85c6e694884a5b712"), looks := true }, kinds := [], alts := [], laidByText := true, laidKinds := [.data, .data, .data, .data, .sentinel, .sentinel, .pinned], laidTests := true, laidLooks := .later }
def AddrParsesUptoCardSaid : Prop := Claim7.holds Tryd.pinned (.plain (OpenSpec.upto addrParsesSpec)) addrParsesUptoCard

/-- THE SECOND FORM's CARD OF 'platbooklaw02.AddrBytes'. -/
def addrBytesUptoCard : Claim7 := { stood := { row := addrBytesUptoRow, standIns := [], harness := (true, "8acac658d7cd304263055e0a07aeaf7d44527f8b548e8fb85c6e694884a5b712"), looks := true }, kinds := [], alts := [], laidByText := true, laidKinds := [.data, .data, .data, .data, .sentinel, .sentinel, .pinned], laidTests := true, laidLooks := .later }
def AddrBytesUptoCardSaid : Prop := Claim7.holds Tryd.pinned (.plain (OpenSpec.upto addrBytesSpec)) addrBytesUptoCard

/-- THE SECOND FORM's CARD OF 'platbooklaw02.AddrSteps'. -/
def addrStepsUptoCard : Claim7 := { stood := { row := addrStepsUptoRow, standIns := [], harness := (true, "8acac658d7cd304263055e0a07aeaf7d44527f8b548e8fb85c6e694884a5b712"), looks := true }, kinds := [], alts := [], laidByText := true, laidKinds := [.data, .data, .data, .data, .sentinel, .sentinel, .pinned], laidTests := true, laidLooks := .later }
def AddrStepsUptoCardSaid : Prop := Claim7.holds Tryd.pinned (.plain (OpenSpec.upto addrStepsSpec)) addrStepsUptoCard

/-- THE SECOND FORM's CARD OF 'platbooklaw03.PrefixNests'. -/
def prefixNestsUptoCard : Claim7 := { stood := { row := prefixNestsUptoRow, standIns := [], harness := (true, "8acac658d7cd304263055e0a07aeaf7d44527f8b548e8fb85c6e694884a5b712"), looks := true }, kinds := [], alts := [], laidByText := true, laidKinds := [.data, .data, .data, .data, .sentinel, .sentinel, .pinned], laidTests := true, laidLooks := .later }
def PrefixNestsUptoCardSaid : Prop := Claim7.holds Tryd.pinned (.plain (OpenSpec.upto prefixNestsSpec)) prefixNestsUptoCard
end Rows
end Go.Proofs.YtgdgklibilddgaaDoor
