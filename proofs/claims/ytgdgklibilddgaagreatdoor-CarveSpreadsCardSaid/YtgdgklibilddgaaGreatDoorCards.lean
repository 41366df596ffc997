/-
  DERIVED. GIVEN WITH THE SEED: THE CARDS: each row of YtgdgklibilddgaaGreatDoorRows.lean that lists a variable, with what it lists TIED to the program's text (the seventh form; the later family's looks); each row that meets fmt, with fmt's text TOLD by the authors' own Lean function (tested against real Go, not proved from fmt's source: count such statements apart). THE CARD IS WHAT COUNTS. Prove the row's statement (the work); the ties are given (YtgdgklibilddgaaGreatDoorTie.lean); close each card by the builder's one call (the guide's Derived/Test/ToyasCard.lean, 'card_holds'). Laid BY PROGRAM, IN A SANDBOX (cutbox-door.mjs). By AI agents, Wed Nov 11 2026. No macro, syntax, notation, axiom, sorry.
-/
import Derived.Test.YtgdgklibilddgaaGreatDoorRows
import GoSem.ClaimSeven
namespace Go.Proofs.YtgdgklibilddgaaGreatDoor
namespace Rows

/-- THE TIED CARD OF 'platbooklaw02.AddrOrders'. -/
def addrOrdersCard : Claim7 := { stood := { row := addrOrdersRow, standIns := [], harness := (true, "b363935c33ea87c0038b649b30b86150c9a016ef4ebd840ff997a7bf959c5458"), looks := true }, kinds := [], alts := [], laidByText := true, laidKinds := [.data, .data, .data, .data, .sentinel, .sentinel, .pinned], laidTests := true, laidLooks := .later }
def AddrOrdersCardSaid : Prop := Claim7.holds Tryz.pinned (.plain (OpenSpec.ofChange addrOrdersSpec)) addrOrdersCard

/-- THE TIED CARD OF 'platbooklaw03.PrefixTexts'. -/
def prefixTextsCard : Claim7 := { stood := { row := prefixTextsRow, standIns := [], harness := (true, "b363935c33ea87c0038b649b30b86150c9a016ef4ebd840ff997a7bf959c5458"), looks := true }, kinds := [], alts := [], laidByText := true, laidKinds := [.data, .data, .data, .data, .sentinel, .sentinel, .pinned], laidTests := true, laidLooks := .later }
def PrefixTextsCardSaid : Prop := Claim7.holds Tryz.pinned (.plain (OpenSpec.ofChange prefixTextsSpec)) prefixTextsCard

/-- THE TIED CARD OF 'platbooklaw03.PrefixCommon'. -/
def prefixCommonCard : Claim7 := { stood := { row := prefixCommonRow, standIns := [], harness := (true, "b363935c33ea87c0038b649b30b86150c9a016ef4ebd840ff997a7bf959c5458"), looks := true }, kinds := [], alts := [], laidByText := true, laidKinds := [.data, .data, .data, .data, .sentinel, .sentinel, .pinned], laidTests := true, laidLooks := .later }
def PrefixCommonCardSaid : Prop := Claim7.holds Tryz.pinned (.plain (OpenSpec.ofChange prefixCommonSpec)) prefixCommonCard

/-- THE TIED CARD OF 'platbooklaw03.PrefixHas'. -/
def prefixHasCard : Claim7 := { stood := { row := prefixHasRow, standIns := [], harness := (true, "b363935c33ea87c0038b649b30b86150c9a016ef4ebd840ff997a7bf959c5458"), looks := true }, kinds := [], alts := [], laidByText := true, laidKinds := [.data, .data, .data, .data, .sentinel, .sentinel, .pinned], laidTests := true, laidLooks := .later }
def PrefixHasCardSaid : Prop := Claim7.holds Tryz.pinned (.plain (OpenSpec.ofChange prefixHasSpec)) prefixHasCard

/-- THE TIED CARD OF 'platbooklaw03.PrefixHalves'. -/
def prefixHalvesCard : Claim7 := { stood := { row := prefixHalvesRow, standIns := [], harness := (true, "b363935c33ea87c0038b649b30b86150c9a016ef4ebd840ff997a7bf959c5458"), looks := true }, kinds := [], alts := [], laidByText := true, laidKinds := [.data, .data, .data, .data, .sentinel, .sentinel, .pinned], laidTests := true, laidLooks := .later }
def PrefixHalvesCardSaid : Prop := Claim7.holds Tryz.pinned (.plain (OpenSpec.ofChange prefixHalvesSpec)) prefixHalvesCard

/-- THE TIED CARD OF 'platbooklaw04.CarveBlocks'. -/
def carveBlocksCard : Claim7 := { stood := { row := carveBlocksRow, standIns := [], harness := (true, "b363935c33ea87c0038b649b30b86150c9a016ef4ebd840ff997a7bf959c5458"), looks := true }, kinds := [], alts := [], laidByText := true, laidKinds := [.data, .data, .data, .data, .sentinel, .sentinel, .pinned], laidTests := true, laidLooks := .later }
def CarveBlocksCardSaid : Prop := Claim7.holds Tryz.pinned (.plain (OpenSpec.ofChange carveBlocksSpec)) carveBlocksCard

/-- THE TIED CARD OF 'platbooklaw04.CarveParts'. -/
def carvePartsCard : Claim7 := { stood := { row := carvePartsRow, standIns := [], harness := (true, "b363935c33ea87c0038b649b30b86150c9a016ef4ebd840ff997a7bf959c5458"), looks := true }, kinds := [], alts := [], laidByText := true, laidKinds := [.data, .data, .data, .data, .sentinel, .sentinel, .pinned], laidTests := true, laidLooks := .later }
def CarvePartsCardSaid : Prop := Claim7.holds Tryz.pinned (.plain (OpenSpec.ofChange carvePartsSpec)) carvePartsCard

/-- THE TIED CARD OF 'platbooklaw04.CarveSpans'. -/
def carveSpansCard : Claim7 := { stood := { row := carveSpansRow, standIns := [], harness := (true, "b363935c33ea87c0038b649b30b86150c9a016ef4ebd840ff997a7bf959c5458"), looks := true }, kinds := [], alts := [], laidByText := true, laidKinds := [.data, .data, .data, .data, .sentinel, .sentinel, .pinned], laidTests := true, laidLooks := .later }
def CarveSpansCardSaid : Prop := Claim7.holds Tryz.pinned (.plain (OpenSpec.ofChange carveSpansSpec)) carveSpansCard

/-- THE TIED CARD OF 'platbooklaw04.CarveSpreads'. -/
def carveSpreadsCard : Claim7 := { stood := { row := carveSpreadsRow, standIns := [], harness := (true, "b363935c33ea87c0038b649b30b86150c9a016ef4ebd840ff997a7bf959c5458"), looks := true }, kinds := [], alts := [], laidByText := true, laidKinds := [.data, .data, .data, .data, .sentinel, .sentinel, .pinned], laidTests := true, laidLooks := .later }
def CarveSpreadsCardSaid : Prop := Claim7.holds Tryz.pinned (.plain (OpenSpec.ofChange carveSpreadsSpec)) carveSpreadsCard

/-- THE TIED CARD OF 'platbooklaw04.CarveNumbers'. -/
def carveNumbersCard : Claim7 := { stood := { row := carveNumbersRow, standIns := [], harness := (true, "b363935c33ea87c0038b649b30b86150c9a016ef4ebd840ff997a7bf959c5458"), looks := true }, kinds := [], alts := [], laidByText := true, laidKinds := [.data, .data, .data, .data, .sentinel, .sentinel, .pinned], laidTests := true, laidLooks := .later }
def CarveNumbersCardSaid : Prop := Claim7.holds Tryz.pinned (.plain (OpenSpec.ofChange carveNumbersSpec)) carveNumbersCard

/-- THE SECOND FORM's CARD OF 'platbooklaw02.AddrOrders'. -/
def addrOrdersUptoCard : Claim7 := { stood := { row := addrOrdersUptoRow, standIns := [], harness := (true, "b363935c33ea87c0038b649b30b86150c9a016ef4ebd840ff997a7bf959c5458"), looks := true }, kinds := [], alts := [], laidByText := true, laidKinds := [.data, .data, .data, .data, .sentinel, .sentinel, .pinned], laidTests := true, laidLooks := .later }
def AddrOrdersUptoCardSaid : Prop := Claim7.holds Tryz.pinned (.plain (OpenSpec.upto addrOrdersSpec)) addrOrdersUptoCard

/-- THE SECOND FORM's CARD OF 'platbooklaw03.PrefixTexts'. -/
def prefixTextsUptoCard : Claim7 := { stood := { row := prefixTextsUptoRow, standIns := [], harness := (true, "b363935c33ea87c0038b649b30b86150c9a016ef4ebd840ff997a7bf959c5458"), looks := true }, kinds := [], alts := [], laidByText := true, laidKinds := [.data, .data, .data, .data, .sentinel, .sentinel, .pinned], laidTests := true, laidLooks := .later }
def PrefixTextsUptoCardSaid : Prop := Claim7.holds Tryz.pinned (.plain (OpenSpec.upto prefixTextsSpec)) prefixTextsUptoCard

/-- THE SECOND FORM's CARD OF 'platbooklaw03.PrefixCommon'. -/
def prefixCommonUptoCard : Claim7 := { stood := { row := prefixCommonUptoRow, standIns := [], harness := (true, "b363935c33ea87c0038b649b30b86150c9a016ef4ebd840ff997a7bf959c5458"), looks := true }, kinds := [], alts := [], laidByText := true, laidKinds := [.data, .data, .data, .data, .sentinel, .sentinel, .pinned], laidTests := true, laidLooks := .later }
def PrefixCommonUptoCardSaid : Prop := Claim7.holds Tryz.pinned (.plain (OpenSpec.upto prefixCommonSpec)) prefixCommonUptoCard

/-- THE SECOND FORM's CARD OF 'platbooklaw03.PrefixHas'. -/
def prefixHasUptoCard : Claim7 := { stood := { row := prefixHasUptoRow, standIns := [], harness := (true, "b363935c33ea87c0038b649b30b86150c9a016ef4ebd840ff997a7bf959c5458"), looks := true }, kinds := [], alts := [], laidByText := true, laidKinds := [.data, .data, .data, .data, .sentinel, .sentinel, .pinned], laidTests := true, laidLooks := .later }
def PrefixHasUptoCardSaid : Prop := Claim7.holds Tryz.pinned (.plain (OpenSpec.upto prefixHasSpec)) prefixHasUptoCard

/-- THE SECOND FORM's CARD OF 'platbooklaw03.PrefixHalves'. -/
def prefixHalvesUptoCard : Claim7 := { stood := { row := prefixHalvesUptoRow, standIns := [], harness := (true, "b363935c33ea87c0038b649b30b86150c9a016ef4ebd840ff997a7bf959c5458"), looks := true }, kinds := [], alts := [], laidByText := true, laidKinds := [.data, .data, .data, .data, .sentinel, .sentinel, .pinned], laidTests := true, laidLooks := .later }
def PrefixHalvesUptoCardSaid : Prop := Claim7.holds Tryz.pinned (.plain (OpenSpec.upto prefixHalvesSpec)) prefixHalvesUptoCard

/-- THE SECOND FORM's CARD OF 'platbooklaw04.CarveBlocks'. -/
def carveBlocksUptoCard : Claim7 := { stood := { row := carveBlocksUptoRow, standIns := [], harness := (true, "b363935c33ea87c0038b649b30b86150c9a016ef4ebd840ff997a7bf959c5458"), looks := true }, kinds := [], alts := [], laidByText := true, laidKinds := [.data, .data, .data, .data, .sentinel, .sentinel, .pinned], laidTests := true, laidLooks := .later }
def CarveBlocksUptoCardSaid : Prop := Claim7.holds Tryz.pinned (.plain (OpenSpec.upto carveBlocksSpec)) carveBlocksUptoCard

/-- THE SECOND FORM's CARD OF 'platbooklaw04.CarveParts'. -/
def carvePartsUptoCard : Claim7 := { stood := { row := carvePartsUptoRow, standIns := [], harness := (true, "b363935c33ea87c0038b649b30b86150c9a016ef4ebd840ff997a7bf959c5458"), looks := true }, kinds := [], alts := [], laidByText := true, laidKinds := [.data, .data, .data, .data, .sentinel, .sentinel, .pinned], laidTests := true, laidLooks := .later }
def CarvePartsUptoCardSaid : Prop := Claim7.holds Tryz.pinned (.plain (OpenSpec.upto carvePartsSpec)) carvePartsUptoCard

/-- THE SECOND FORM's CARD OF 'platbooklaw04.CarveSpans'. -/
def carveSpansUptoCard : Claim7 := { stood := { row := carveSpansUptoRow, standIns := [], harness := (true, "b363935c33ea87c0038b649b30b86150c9a016ef4ebd840ff997a7bf959c5458"), looks := true }, kinds := [], alts := [], laidByText := true, laidKinds := [.data, .data, .data, .data, .sentinel, .sentinel, .pinned], laidTests := true, laidLooks := .later }
def CarveSpansUptoCardSaid : Prop := Claim7.holds Tryz.pinned (.plain (OpenSpec.upto carveSpansSpec)) carveSpansUptoCard

/-- THE SECOND FORM's CARD OF 'platbooklaw04.CarveSpreads'. -/
def carveSpreadsUptoCard : Claim7 := { stood := { row := carveSpreadsUptoRow, standIns := [], harness := (true, "b363935c33ea87c0038b649b30b86150c9a016ef4ebd840ff997a7bf959c5458"), looks := true }, kinds := [], alts := [], laidByText := true, laidKinds := [.data, .data, .data, .data, .sentinel, .sentinel, .pinned], laidTests := true, laidLooks := .later }
def CarveSpreadsUptoCardSaid : Prop := Claim7.holds Tryz.pinned (.plain (OpenSpec.upto carveSpreadsSpec)) carveSpreadsUptoCard

/-- THE SECOND FORM's CARD OF 'platbooklaw04.CarveNumbers'. -/
def carveNumbersUptoCard : Claim7 := { stood := { row := carveNumbersUptoRow, standIns := [], harness := (true, "b363935c33ea87c0038b649b30b86150c9a016ef4ebd840ff997a7bf959c5458"), looks := true }, kinds := [], alts := [], laidByText := true, laidKinds := [.data, .data, .data, .data, .sentinel, .sentinel, .pinned], laidTests := true, laidLooks := .later }
def CarveNumbersUptoCardSaid : Prop := Claim7.holds Tryz.pinned (.plain (OpenSpec.upto carveNumbersSpec)) carveNumbersUptoCard
end Rows
end Go.Proofs.YtgdgklibilddgaaGreatDoor
