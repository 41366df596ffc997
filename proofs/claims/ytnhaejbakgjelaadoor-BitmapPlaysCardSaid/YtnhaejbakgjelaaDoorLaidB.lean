/- The listed table of the bits: from the row's condition to the walks' fact; a start that meets it. -/
import Derived.Test.YtnhaejbakgjelaaDoorPost
import Derived.Test.YtnhaejbakgjelaaDoorBmA
import Derived.LaidMore
import Derived.LaidByTextLater
import Derived.OpenShut
import Derived.Stop.Joined
import Derived.Lib.LaidTab
namespace Go.Proofs.YtnhaejbakgjelaaDoor
open Go.RowKit

def listB {H : Type} : List (String × DataW H) := [("math/bits.deBruijn64tab", Rows.laid_math_bits_deBruijn64tab)]
def tabZ : List Int := Lib.deBruijn64tab.map Int.ofNat
theorem listB_tab : (Rows.laid_math_bits_deBruijn64tab : DataW Unit) = Lib.tabData .u8 tabZ := by kernel_rfl
theorem doorB_met (os : Os) (args : Array Value) : laidMetH Tryd.prog listB ((World.doorLaid Tryd.prog 24 os).forCall (fun _ _ => 0) ⟨#[], args, []⟩).memory :=
  laidMetH_of_parts3 (fuel := 8) (laidMet_of_run' 8 (by kernel_rfl) (by kernel_rfl)) (by kernel_rfl) (by kernel_rfl)
theorem tab_of_laid {W : World} (h : laidMetH Tryd.prog listB W) : Tab W := by
  rw [MakeChecks.laidMetH_plain _ _ _ (by kernel_rfl)] at h
  unfold listB at h
  rw [listB_tab] at h
  have hT := Lib.tabIs_of_head (P := Tryd.prog) (g := 0) (t := 100) (e := 5) (n := 64) (by kernel_rfl) (by kernel_rfl) Tryd.underlying100 Tryd.underlying5 (by kernel_rfl) (by kernel_rfl) h
  intro j hj
  have hc := hT.cell (g := 0) (by kernel_rfl) j (by unfold tabZ; simpa using hj)
  rw [hc]
  have e : tabZ.getD j 0 = ((Lib.deBruijn64tab.getD j 0 : Nat) : Int) := by
    unfold tabZ
    simp only [List.getD_eq_getElem?_getD, List.getElem?_map]
    cases Lib.deBruijn64tab[j]? <;> rfl
  rw [e]
end Go.Proofs.YtnhaejbakgjelaaDoor
