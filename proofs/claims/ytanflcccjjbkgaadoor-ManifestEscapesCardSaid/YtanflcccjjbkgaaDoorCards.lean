/-
  DERIVED. GIVEN WITH THE SEED: THE CARDS: each row of YtanflcccjjbkgaaDoorRows.lean that lists a variable, with what it lists TIED to the program's text (the seventh form; the later family's looks); each row that meets fmt, with fmt's text TOLD by the authors' own Lean function (tested against real Go, not proved from fmt's source: count such statements apart). THE CARD IS WHAT COUNTS. Prove the row's statement (the work); the ties are given (YtanflcccjjbkgaaDoorTie.lean); close each card by the builder's one call (the guide's Derived/Test/ToyasCard.lean, 'card_holds'). Laid BY PROGRAM, IN A SANDBOX (cutbox-door.mjs). By AI agents, Wed Nov 11 2026. No macro, syntax, notation, axiom, sorry.
-/
import Derived.Test.YtanflcccjjbkgaaDoorRows
import GoSem.ClaimSeven
namespace Go.Proofs.YtanflcccjjbkgaaDoor
namespace Rows

/-- THE TIED CARD OF 'platbooklaw30.ManifestEscapes'. -/
def manifestEscapesCard : Claim7 := { stood := { row := manifestEscapesRow, standIns := [], harness := (true, "e02496f7c5d0877e1698bf127644c66452b499b8dffd4f27ace3ea76da486063"), looks := false }, kinds := [], alts := [], laidByText := true, laidKinds := [.data, .data, .data, .widerDeep], laidTests := true, laidLooks := .later }
def ManifestEscapesCardSaid : Prop := Claim7.holds Tryd.pinned (.plain (OpenSpec.ofChange manifestEscapesSpec)) manifestEscapesCard

/-- THE TIED CARD OF 'platbooklaw32.DiffIs'. -/
def diffIsCard : Claim7 := { stood := { row := diffIsRow, standIns := [], harness := (true, "e02496f7c5d0877e1698bf127644c66452b499b8dffd4f27ace3ea76da486063"), looks := false }, kinds := [], alts := [], laidByText := true, laidKinds := [.data, .data, .data, .widerDeep], laidTests := true, laidLooks := .later }
def DiffIsCardSaid : Prop := Claim7.holds Tryd.pinned (.plain (OpenSpec.ofChange diffIsSpec)) diffIsCard

/-- THE TIED CARD OF 'platbooklaw32.DiffMakes'. -/
def diffMakesCard : Claim7 := { stood := { row := diffMakesRow, standIns := [], harness := (true, "e02496f7c5d0877e1698bf127644c66452b499b8dffd4f27ace3ea76da486063"), looks := false }, kinds := [], alts := [], laidByText := true, laidKinds := [.data, .data, .data, .widerDeep], laidTests := true, laidLooks := .later }
def DiffMakesCardSaid : Prop := Claim7.holds Tryd.pinned (.plain (OpenSpec.ofChange diffMakesSpec)) diffMakesCard

/-- THE SECOND FORM's CARD OF 'platbooklaw30.ManifestEscapes'. -/
def manifestEscapesUptoCard : Claim7 := { stood := { row := manifestEscapesUptoRow, standIns := [], harness := (true, "e02496f7c5d0877e1698bf127644c66452b499b8dffd4f27ace3ea76da486063"), looks := false }, kinds := [], alts := [], laidByText := true, laidKinds := [.data, .data, .data, .widerDeep], laidTests := true, laidLooks := .later }
def ManifestEscapesUptoCardSaid : Prop := Claim7.holds Tryd.pinned (.plain (OpenSpec.upto manifestEscapesSpec)) manifestEscapesUptoCard

/-- THE SECOND FORM's CARD OF 'platbooklaw32.DiffIs'. -/
def diffIsUptoCard : Claim7 := { stood := { row := diffIsUptoRow, standIns := [], harness := (true, "e02496f7c5d0877e1698bf127644c66452b499b8dffd4f27ace3ea76da486063"), looks := false }, kinds := [], alts := [], laidByText := true, laidKinds := [.data, .data, .data, .widerDeep], laidTests := true, laidLooks := .later }
def DiffIsUptoCardSaid : Prop := Claim7.holds Tryd.pinned (.plain (OpenSpec.upto diffIsSpec)) diffIsUptoCard

/-- THE SECOND FORM's CARD OF 'platbooklaw32.DiffMakes'. -/
def diffMakesUptoCard : Claim7 := { stood := { row := diffMakesUptoRow, standIns := [], harness := (true, "e02496f7c5d0877e1698bf127644c66452b499b8dffd4f27ace3ea76da486063"), looks := false }, kinds := [], alts := [], laidByText := true, laidKinds := [.data, .data, .data, .widerDeep], laidTests := true, laidLooks := .later }
def DiffMakesUptoCardSaid : Prop := Claim7.holds Tryd.pinned (.plain (OpenSpec.upto diffMakesSpec)) diffMakesUptoCard
end Rows
end Go.Proofs.YtanflcccjjbkgaaDoor
