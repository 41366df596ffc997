/-
  DERIVED. GIVEN WITH THE SEED: THE CARDS: each row of YtnhaejbakgjelaaDoorRows.lean that lists a variable, with what it lists TIED to the program's text (the seventh form; the later family's looks); each row that meets fmt, with fmt's text TOLD by the authors' own Lean function (tested against real Go, not proved from fmt's source: count such statements apart). THE CARD IS WHAT COUNTS. Prove the row's statement (the work); the ties are given (YtnhaejbakgjelaaDoorTie.lean); close each card by the builder's one call (the guide's Derived/Test/ToyasCard.lean, 'card_holds'). Laid BY PROGRAM, IN A SANDBOX (cutbox-door.mjs). By AI agents, Wed Nov 11 2026. No macro, syntax, notation, axiom, sorry.
-/
import Derived.Test.YtnhaejbakgjelaaDoorRows
import GoSem.ClaimSeven
namespace Go.Proofs.YtnhaejbakgjelaaDoor
namespace Rows

/-- THE TIED CARD OF 'platbooklaw05.BitmapGreat'. -/
def bitmapGreatCard : Claim7 := { stood := { row := bitmapGreatRow, standIns := [], harness := (true, "7cf5ffbe7066b2b6dc83ade2f1288d0f6935de024949e43133273f71788199e9"), looks := false }, kinds := [], alts := [], laidByText := true, laidKinds := [.data], laidTests := true, laidLooks := .later }
def BitmapGreatCardSaid : Prop := Claim7.holds Tryd.pinned (.plain (OpenSpec.ofChange bitmapGreatSpec)) bitmapGreatCard

/-- THE TIED CARD OF 'platbooklaw05.BitmapBytes'. -/
def bitmapBytesCard : Claim7 := { stood := { row := bitmapBytesRow, standIns := [], harness := (true, "7cf5ffbe7066b2b6dc83ade2f1288d0f6935de024949e43133273f71788199e9"), looks := false }, kinds := [], alts := [], laidByText := true, laidKinds := [.data], laidTests := true, laidLooks := .later }
def BitmapBytesCardSaid : Prop := Claim7.holds Tryd.pinned (.plain (OpenSpec.ofChange bitmapBytesSpec)) bitmapBytesCard

/-- THE TIED CARD OF 'platbooklaw05.BitmapTakes'. -/
def bitmapTakesCard : Claim7 := { stood := { row := bitmapTakesRow, standIns := [], harness := (true, "7cf5ffbe7066b2b6dc83ade2f1288d0f6935de024949e43133273f71788199e9"), looks := false }, kinds := [], alts := [], laidByText := true, laidKinds := [.data], laidTests := true, laidLooks := .later }
def BitmapTakesCardSaid : Prop := Claim7.holds Tryd.pinned (.plain (OpenSpec.ofChange bitmapTakesSpec)) bitmapTakesCard

/-- THE TIED CARD OF 'platbooklaw05.BitmapPlays'. -/
def bitmapPlaysCard : Claim7 := { stood := { row := bitmapPlaysRow, standIns := [], harness := (true, "7cf5ffbe7066b2b6dc83ade2f1288d0f6935de024949e43133273f71788199e9"), looks := false }, kinds := [], alts := [], laidByText := true, laidKinds := [.data], laidTests := true, laidLooks := .later }
def BitmapPlaysCardSaid : Prop := Claim7.holds Tryd.pinned (.plain (OpenSpec.ofChange bitmapPlaysSpec)) bitmapPlaysCard

/-- THE TIED CARD OF 'platbooklaw05.BitmapNil'. -/
def bitmapNilCard : Claim7 := { stood := { row := bitmapNilRow, standIns := [], harness := (true, "7cf5ffbe7066b2b6dc83ade2f1288d0f6935de024949e43133273f71788199e9"), looks := false }, kinds := [], alts := [], laidByText := true, laidKinds := [.data], laidTests := true, laidLooks := .later }
def BitmapNilCardSaid : Prop := Claim7.holds Tryd.pinned (.plain (OpenSpec.ofChange bitmapNilSpec)) bitmapNilCard

/-- THE TIED CARD OF 'platbooklaw01.NumTexts'. -/
def numTextsCard : Claim7 := { stood := { row := numTextsRow, standIns := [], harness := (true, "7cf5ffbe7066b2b6dc83ade2f1288d0f6935de024949e43133273f71788199e9"), looks := false }, kinds := [], alts := [], laidByText := true, laidKinds := [.data, .pinned], laidTests := true, laidLooks := .later }
def NumTextsCardSaid : Prop := Claim7.holds Tryd.pinned (.plain (OpenSpec.ofChange numTextsSpec)) numTextsCard

/-- THE SECOND FORM's CARD OF 'platbooklaw05.BitmapGreat'. -/
def bitmapGreatUptoCard : Claim7 := { stood := { row := bitmapGreatUptoRow, standIns := [], harness := (true, "7cf5ffbe7066b2b6dc83ade2f1288d0f6935de024949e43133273f71788199e9"), looks := false }, kinds := [], alts := [], laidByText := true, laidKinds := [.data], laidTests := true, laidLooks := .later }
def BitmapGreatUptoCardSaid : Prop := Claim7.holds Tryd.pinned (.plain (OpenSpec.upto bitmapGreatSpec)) bitmapGreatUptoCard

/-- THE SECOND FORM's CARD OF 'platbooklaw05.BitmapBytes'. -/
def bitmapBytesUptoCard : Claim7 := { stood := { row := bitmapBytesUptoRow, standIns := [], harness := (true, "7cf5ffbe7066b2b6dc83ade2f1288d0f6935de024949e43133273f71788199e9"), looks := false }, kinds := [], alts := [], laidByText := true, laidKinds := [.data], laidTests := true, laidLooks := .later }
def BitmapBytesUptoCardSaid : Prop := Claim7.holds Tryd.pinned (.plain (OpenSpec.upto bitmapBytesSpec)) bitmapBytesUptoCard

/-- THE SECOND FORM's CARD OF 'platbooklaw05.BitmapTakes'. -/
def bitmapTakesUptoCard : Claim7 := { stood := { row := bitmapTakesUptoRow, standIns := [], harness := (true, "7cf5ffbe7066b2b6dc83ade2f1288d0f6935de024949e43133273f71788199e9"), looks := false }, kinds := [], alts := [], laidByText := true, laidKinds := [.data], laidTests := true, laidLooks := .later }
def BitmapTakesUptoCardSaid : Prop := Claim7.holds Tryd.pinned (.plain (OpenSpec.upto bitmapTakesSpec)) bitmapTakesUptoCard

/-- THE SECOND FORM's CARD OF 'platbooklaw05.BitmapPlays'. -/
def bitmapPlaysUptoCard : Claim7 := { stood := { row := bitmapPlaysUptoRow, standIns := [], harness := (true, "7cf5ffbe7066b2b6dc83ade2f1288d0f6935de024949e43133273f71788199e9"), looks := false }, kinds := [], alts := [], laidByText := true, laidKinds := [.data], laidTests := true, laidLooks := .later }
def BitmapPlaysUptoCardSaid : Prop := Claim7.holds Tryd.pinned (.plain (OpenSpec.upto bitmapPlaysSpec)) bitmapPlaysUptoCard

/-- THE SECOND FORM's CARD OF 'platbooklaw05.BitmapNil'. -/
def bitmapNilUptoCard : Claim7 := { stood := { row := bitmapNilUptoRow, standIns := [], harness := (true, "7cf5ffbe7066b2b6dc83ade2f1288d0f6935de024949e43133273f71788199e9"), looks := false }, kinds := [], alts := [], laidByText := true, laidKinds := [.data], laidTests := true, laidLooks := .later }
def BitmapNilUptoCardSaid : Prop := Claim7.holds Tryd.pinned (.plain (OpenSpec.upto bitmapNilSpec)) bitmapNilUptoCard

/-- THE SECOND FORM's CARD OF 'platbooklaw01.NumTexts'. -/
def numTextsUptoCard : Claim7 := { stood := { row := numTextsUptoRow, standIns := [], harness := (true, "7cf5ffbe7066b2b6dc83ade2f1288d0f6935de024949e43133273f71788199e9"), looks := false }, kinds := [], alts := [], laidByText := true, laidKinds := [.data, .pinned], laidTests := true, laidLooks := .later }
def NumTextsUptoCardSaid : Prop := Claim7.holds Tryd.pinned (.plain (OpenSpec.upto numTextsSpec)) numTextsUptoCard
end Rows
end Go.Proofs.YtnhaejbakgjelaaDoor
