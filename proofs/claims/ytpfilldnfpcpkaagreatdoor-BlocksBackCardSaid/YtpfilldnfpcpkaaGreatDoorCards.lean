/-
  DERIVED. GIVEN WITH THE SEED: THE CARDS: each row of YtpfilldnfpcpkaaGreatDoorRows.lean that lists a variable, with what it lists TIED to the program's text (the seventh form; the later family's looks); each row that meets fmt, with fmt's text TOLD by the authors' own Lean function (tested against real Go, not proved from fmt's source: count such statements apart). THE CARD IS WHAT COUNTS. Prove the row's statement (the work); the ties are given (YtpfilldnfpcpkaaGreatDoorTie.lean); close each card by the builder's one call (the guide's Derived/Test/ToyasCard.lean, 'card_holds'). Laid BY PROGRAM, IN A SANDBOX (cutbox-door.mjs). By AI agents, Wed Nov 11 2026. No macro, syntax, notation, axiom, sorry.
-/
import Derived.Test.YtpfilldnfpcpkaaGreatDoorRows
import GoSem.ClaimSeven
namespace Go.Proofs.YtpfilldnfpcpkaaGreatDoor
namespace Rows

/-- THE TIED CARD OF 'platbooklaw06.PoolPlays'. -/
def poolPlaysCard : Claim7 := { stood := { row := poolPlaysRow, standIns := [], harness := (true, "62f2c0f05085cec77522abfbfa97bddcc8fbfb44f3f6592d2a32bdd6c4e85b19"), looks := true }, kinds := [], alts := [], laidByText := true, laidKinds := [.data, .data, .data, .data, .sentinel, .sentinel, .pinned], laidTests := true, laidLooks := .later }
def PoolPlaysCardSaid : Prop := Claim7.holds Tryz.pinned (.plain (OpenSpec.ofChange poolPlaysSpec)) poolPlaysCard

/-- THE TIED CARD OF 'platbooklaw06.PoolOnce'. -/
def poolOnceCard : Claim7 := { stood := { row := poolOnceRow, standIns := [], harness := (true, "62f2c0f05085cec77522abfbfa97bddcc8fbfb44f3f6592d2a32bdd6c4e85b19"), looks := true }, kinds := [], alts := [], laidByText := true, laidKinds := [.data, .data, .data, .data, .sentinel, .sentinel, .pinned], laidTests := true, laidLooks := .later }
def PoolOnceCardSaid : Prop := Claim7.holds Tryz.pinned (.plain (OpenSpec.ofChange poolOnceSpec)) poolOnceCard

/-- THE TIED CARD OF 'platbooklaw07.BlocksApart'. -/
def blocksApartCard : Claim7 := { stood := { row := blocksApartRow, standIns := [], harness := (true, "62f2c0f05085cec77522abfbfa97bddcc8fbfb44f3f6592d2a32bdd6c4e85b19"), looks := true }, kinds := [], alts := [], laidByText := true, laidKinds := [.data, .data, .data, .data, .sentinel, .sentinel, .pinned], laidTests := true, laidLooks := .later }
def BlocksApartCardSaid : Prop := Claim7.holds Tryz.pinned (.plain (OpenSpec.ofChange blocksApartSpec)) blocksApartCard

/-- THE TIED CARD OF 'platbooklaw07.BlocksBack'. -/
def blocksBackCard : Claim7 := { stood := { row := blocksBackRow, standIns := [], harness := (true, "62f2c0f05085cec77522abfbfa97bddcc8fbfb44f3f6592d2a32bdd6c4e85b19"), looks := true }, kinds := [], alts := [], laidByText := true, laidKinds := [.data, .data, .data, .data, .sentinel, .sentinel, .pinned], laidTests := true, laidLooks := .later }
def BlocksBackCardSaid : Prop := Claim7.holds Tryz.pinned (.plain (OpenSpec.ofChange blocksBackSpec)) blocksBackCard

/-- THE TIED CARD OF 'platbooklaw06.PoolGreat'. -/
def poolGreatCard : Claim7 := { stood := { row := poolGreatRow, standIns := [], harness := (true, "62f2c0f05085cec77522abfbfa97bddcc8fbfb44f3f6592d2a32bdd6c4e85b19"), looks := true }, kinds := [], alts := [], laidByText := true, laidKinds := [.data, .data, .data, .data, .sentinel, .sentinel, .pinned], laidTests := true, laidLooks := .later }
def PoolGreatCardSaid : Prop := Claim7.holds Tryz.pinned (.plain (OpenSpec.ofChange poolGreatSpec)) poolGreatCard

/-- THE TIED CARD OF 'platbooklaw07.BlocksGreat'. -/
def blocksGreatCard : Claim7 := { stood := { row := blocksGreatRow, standIns := [], harness := (true, "62f2c0f05085cec77522abfbfa97bddcc8fbfb44f3f6592d2a32bdd6c4e85b19"), looks := true }, kinds := [], alts := [], laidByText := true, laidKinds := [.data, .data, .data, .data, .sentinel, .sentinel, .pinned], laidTests := true, laidLooks := .later }
def BlocksGreatCardSaid : Prop := Claim7.holds Tryz.pinned (.plain (OpenSpec.ofChange blocksGreatSpec)) blocksGreatCard

/-- THE TIED CARD OF 'platbooklaw06.PoolBytes'. -/
def poolBytesCard : Claim7 := { stood := { row := poolBytesRow, standIns := [], harness := (true, "62f2c0f05085cec77522abfbfa97bddcc8fbfb44f3f6592d2a32bdd6c4e85b19"), looks := true }, kinds := [], alts := [], laidByText := true, laidKinds := [.data, .data, .data, .data, .sentinel, .sentinel, .pinned], laidTests := true, laidLooks := .later }
def PoolBytesCardSaid : Prop := Claim7.holds Tryz.pinned (.plain (OpenSpec.ofChange poolBytesSpec)) poolBytesCard

/-- THE TIED CARD OF 'platbooklaw07.BlocksPlay'. -/
def blocksPlayCard : Claim7 := { stood := { row := blocksPlayRow, standIns := [], harness := (true, "62f2c0f05085cec77522abfbfa97bddcc8fbfb44f3f6592d2a32bdd6c4e85b19"), looks := true }, kinds := [], alts := [], laidByText := true, laidKinds := [.data, .data, .data, .data, .sentinel, .sentinel, .pinned], laidTests := true, laidLooks := .later }
def BlocksPlayCardSaid : Prop := Claim7.holds Tryz.pinned (.plain (OpenSpec.ofChange blocksPlaySpec)) blocksPlayCard

/-- THE TIED CARD OF 'platbooklaw07.BlocksNil'. -/
def blocksNilCard : Claim7 := { stood := { row := blocksNilRow, standIns := [], harness := (true, "62f2c0f05085cec77522abfbfa97bddcc8fbfb44f3f6592d2a32bdd6c4e85b19"), looks := true }, kinds := [], alts := [], laidByText := true, laidKinds := [.data, .data, .data, .data, .sentinel, .sentinel, .pinned], laidTests := true, laidLooks := .later }
def BlocksNilCardSaid : Prop := Claim7.holds Tryz.pinned (.plain (OpenSpec.ofChange blocksNilSpec)) blocksNilCard

/-- THE TIED CARD OF 'platbooklaw06.PoolNil'. -/
def poolNilCard : Claim7 := { stood := { row := poolNilRow, standIns := [], harness := (true, "62f2c0f05085cec77522abfbfa97bddcc8fbfb44f3f6592d2a32bdd6c4e85b19"), looks := true }, kinds := [], alts := [], laidByText := true, laidKinds := [.data, .data, .data, .data, .sentinel, .sentinel, .pinned], laidTests := true, laidLooks := .later }
def PoolNilCardSaid : Prop := Claim7.holds Tryz.pinned (.plain (OpenSpec.ofChange poolNilSpec)) poolNilCard

/-- THE SECOND FORM's CARD OF 'platbooklaw06.PoolPlays'. -/
def poolPlaysUptoCard : Claim7 := { stood := { row := poolPlaysUptoRow, standIns := [], harness := (true, "62f2c0f05085cec77522abfbfa97bddcc8fbfb44f3f6592d2a32bdd6c4e85b19"), looks := true }, kinds := [], alts := [], laidByText := true, laidKinds := [.data, .data, .data, .data, .sentinel, .sentinel, .pinned], laidTests := true, laidLooks := .later }
def PoolPlaysUptoCardSaid : Prop := Claim7.holds Tryz.pinned (.plain (OpenSpec.upto poolPlaysSpec)) poolPlaysUptoCard

/-- THE SECOND FORM's CARD OF 'platbooklaw06.PoolOnce'. -/
def poolOnceUptoCard : Claim7 := { stood := { row := poolOnceUptoRow, standIns := [], harness := (true, "62f2c0f05085cec77522abfbfa97bddcc8fbfb44f3f6592d2a32bdd6c4e85b19"), looks := true }, kinds := [], alts := [], laidByText := true, laidKinds := [.data, .data, .data, .data, .sentinel, .sentinel, .pinned], laidTests := true, laidLooks := .later }
def PoolOnceUptoCardSaid : Prop := Claim7.holds Tryz.pinned (.plain (OpenSpec.upto poolOnceSpec)) poolOnceUptoCard

/-- THE SECOND FORM's CARD OF 'platbooklaw07.BlocksApart'. -/
def blocksApartUptoCard : Claim7 := { stood := { row := blocksApartUptoRow, standIns := [], harness := (true, "62f2c0f05085cec77522abfbfa97bddcc8fbfb44f3f6592d2a32bdd6c4e85b19"), looks := true }, kinds := [], alts := [], laidByText := true, laidKinds := [.data, .data, .data, .data, .sentinel, .sentinel, .pinned], laidTests := true, laidLooks := .later }
def BlocksApartUptoCardSaid : Prop := Claim7.holds Tryz.pinned (.plain (OpenSpec.upto blocksApartSpec)) blocksApartUptoCard

/-- THE SECOND FORM's CARD OF 'platbooklaw07.BlocksBack'. -/
def blocksBackUptoCard : Claim7 := { stood := { row := blocksBackUptoRow, standIns := [], harness := (true, "62f2c0f05085cec77522abfbfa97bddcc8fbfb44f3f6592d2a32bdd6c4e85b19"), looks := true }, kinds := [], alts := [], laidByText := true, laidKinds := [.data, .data, .data, .data, .sentinel, .sentinel, .pinned], laidTests := true, laidLooks := .later }
def BlocksBackUptoCardSaid : Prop := Claim7.holds Tryz.pinned (.plain (OpenSpec.upto blocksBackSpec)) blocksBackUptoCard

/-- THE SECOND FORM's CARD OF 'platbooklaw06.PoolGreat'. -/
def poolGreatUptoCard : Claim7 := { stood := { row := poolGreatUptoRow, standIns := [], harness := (true, "62f2c0f05085cec77522abfbfa97bddcc8fbfb44f3f6592d2a32bdd6c4e85b19"), looks := true }, kinds := [], alts := [], laidByText := true, laidKinds := [.data, .data, .data, .data, .sentinel, .sentinel, .pinned], laidTests := true, laidLooks := .later }
def PoolGreatUptoCardSaid : Prop := Claim7.holds Tryz.pinned (.plain (OpenSpec.upto poolGreatSpec)) poolGreatUptoCard

/-- THE SECOND FORM's CARD OF 'platbooklaw07.BlocksGreat'. -/
def blocksGreatUptoCard : Claim7 := { stood := { row := blocksGreatUptoRow, standIns := [], harness := (true, "62f2c0f05085cec77522abfbfa97bddcc8fbfb44f3f6592d2a32bdd6c4e85b19"), looks := true }, kinds := [], alts := [], laidByText := true, laidKinds := [.data, .data, .data, .data, .sentinel, .sentinel, .pinned], laidTests := true, laidLooks := .later }
def BlocksGreatUptoCardSaid : Prop := Claim7.holds Tryz.pinned (.plain (OpenSpec.upto blocksGreatSpec)) blocksGreatUptoCard

/-- THE SECOND FORM's CARD OF 'platbooklaw06.PoolBytes'. -/
def poolBytesUptoCard : Claim7 := { stood := { row := poolBytesUptoRow, standIns := [], harness := (true, "62f2c0f05085cec77522abfbfa97bddcc8fbfb44f3f6592d2a32bdd6c4e85b19"), looks := true }, kinds := [], alts := [], laidByText := true, laidKinds := [.data, .data, .data, .data, .sentinel, .sentinel, .pinned], laidTests := true, laidLooks := .later }
def PoolBytesUptoCardSaid : Prop := Claim7.holds Tryz.pinned (.plain (OpenSpec.upto poolBytesSpec)) poolBytesUptoCard

/-- THE SECOND FORM's CARD OF 'platbooklaw07.BlocksPlay'. -/
def blocksPlayUptoCard : Claim7 := { stood := { row := blocksPlayUptoRow, standIns := [], harness := (true, "62f2c0f05085cec77522abfbfa97bddcc8fbfb44f3f6592d2a32bdd6c4e85b19"), looks := true }, kinds := [], alts := [], laidByText := true, laidKinds := [.data, .data, .data, .data, .sentinel, .sentinel, .pinned], laidTests := true, laidLooks := .later }
def BlocksPlayUptoCardSaid : Prop := Claim7.holds Tryz.pinned (.plain (OpenSpec.upto blocksPlaySpec)) blocksPlayUptoCard

/-- THE SECOND FORM's CARD OF 'platbooklaw07.BlocksNil'. -/
def blocksNilUptoCard : Claim7 := { stood := { row := blocksNilUptoRow, standIns := [], harness := (true, "62f2c0f05085cec77522abfbfa97bddcc8fbfb44f3f6592d2a32bdd6c4e85b19"), looks := true }, kinds := [], alts := [], laidByText := true, laidKinds := [.data, .data, .data, .data, .sentinel, .sentinel, .pinned], laidTests := true, laidLooks := .later }
def BlocksNilUptoCardSaid : Prop := Claim7.holds Tryz.pinned (.plain (OpenSpec.upto blocksNilSpec)) blocksNilUptoCard

/-- THE SECOND FORM's CARD OF 'platbooklaw06.PoolNil'. -/
def poolNilUptoCard : Claim7 := { stood := { row := poolNilUptoRow, standIns := [], harness := (true, "62f2c0f05085cec77522abfbfa97bddcc8fbfb44f3f6592d2a32bdd6c4e85b19"), looks := true }, kinds := [], alts := [], laidByText := true, laidKinds := [.data, .data, .data, .data, .sentinel, .sentinel, .pinned], laidTests := true, laidLooks := .later }
def PoolNilUptoCardSaid : Prop := Claim7.holds Tryz.pinned (.plain (OpenSpec.upto poolNilSpec)) poolNilUptoCard
end Rows
end Go.Proofs.YtpfilldnfpcpkaaGreatDoor
