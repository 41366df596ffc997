/- The listed variables of layer 30: from the row's condition to the walks' fact; a start that meets it. -/
import Derived.Test.YtanflcccjjbkgaaDoorPost
import Derived.Test.YtanflcccjjbkgaaDoorMeC
import Derived.LaidMore
import Derived.Lay
import Derived.MakeChecks
import Derived.LaidByTextLater
import Derived.OpenShut
import Derived.Stop.Joined
import Derived.Stop.LaidErr
import Derived.Lib.LaidTab
namespace Go.Proofs.YtanflcccjjbkgaaDoor
open Go.RowKit

def listM {H : Type} : List (String × DataW H) := [("math/bits.deBruijn32tab", Rows.laid_math_bits_deBruijn32tab), ("math/bits.deBruijn64tab", Rows.laid_math_bits_deBruijn64tab), ("internal/strconv.uint64pow10", Rows.laid_internal_strconv_uint64pow10), ("platbook/manifest.words", Rows.laid_platbook_manifest_words)]
theorem doorM_met (os : Os) (args : Array Value) : laidMetH Tryd.prog listM ((World.laidAll Tryd.prog os listM).forCall (fun _ _ => 0) ⟨#[], args, []⟩).memory := by
  rw [MakeChecks.laidMetH_plain _ _ _ (by kernel_rfl)]; exact laidMet_laidAll _ (by kernel_rfl) (by kernel_rfl)
/-- a row of texts as a datum -/
def textsD (l : List ByteArray) : DataW Unit := .agg (l.map fun s => .lit (.string s.data.toList))
/-- an array of texts that reads so holds just these -/
theorem cells_of_texts {enc : TypeId × Value → Unit} {P : Program} {w : World} {base : Nat} {sp : Nat → Bool} {held : Bool} {fuel : Nat} {t e : TypeId} {n : Nat} {cs : List Value} {zs : List ByteArray} {p : List MemPlace}
    (ht : P.underlying t = some (.array n e)) (he : P.underlying e = some .string) (hce : P.cellsOf e = 1) (hct : P.cellsOf t = n)
    (h : DataW.trod enc P w base sp held fuel t cs = some (textsD zs, p)) : cs = zs.map Value.string := by
  cases fuel with
  | zero => simp [DataW.trod] at h
  | succ fuel =>
    simp only [DataW.trod, ht, hce, hct, Nat.mul_one] at h
    split at h
    · rename_i hl
      obtain ⟨xs, hm, hx⟩ := Option.map_eq_some_iff.1 h
      have hxs : xs.map (·.1) = zs.map fun s => (DataW.lit (.string s.data.toList) : DataW Unit) := by
        have := congrArg Prod.fst hx
        simpa [textsD] using this
      have hxl : xs.length = n := by simpa using Lib.mapM_length hm
      have hzl : zs.length = n := by
        have := congrArg List.length hxs
        simp at this
        omega
      apply List.ext_getElem?
      intro i
      by_cases hi : i < n
      · obtain ⟨b, hb, hf⟩ := Lib.mapM_at hm i i (by simp [hi])
        obtain ⟨s, hc, rfl, _⟩ := DataW.trod_string he hf
        have h1 : cs[i]? = some (.string s) := by
          have := congrArg (·[0]?) hc
          simpa [List.getElem?_take, List.getElem?_drop] using this
        have h2 : (xs.map (·.1))[i]? = some (DataW.lit (.string s.data.toList) : DataW Unit) := by simp [hb]
        rw [hxs] at h2
        simp only [List.getElem?_map, Option.map_eq_some_iff, DataW.lit.injEq, Lit.string.injEq] at h2
        obtain ⟨s', hs', hd⟩ := h2
        have : s' = s := ByteArray.ext (Array.ext' hd)
        subst this
        simp [h1, hs']
      · rw [List.getElem?_eq_none (by omega), List.getElem?_eq_none (by simp; omega)]
    · cases h
theorem words_of_laid {W : World} (h : laidMetH Tryd.prog listM W) : Words W := by
  rw [MakeChecks.laidMetH_plain _ _ _ (by kernel_rfl)] at h
  unfold listM at h
  have h4 := h.tail.tail.tail
  have hd : (Rows.laid_platbook_manifest_words : DataW Unit) = textsD [wordS 0, wordS 1, wordS 2, wordS 3] := by kernel_rfl
  rw [hd] at h4
  obtain ⟨ps, ⟨g', t', cs, fuel, p, q, hg', ht', hvar, hdd, _, _⟩, _⟩ := h4
  have hg : Tryd.prog.globalNamed "platbook/manifest.words" = some 0 := by kernel_rfl
  have hty : (Tryd.prog.globals[0]?).map (·.type) = some 58 := by kernel_rfl
  obtain rfl := Option.some.inj (hg.symm.trans hg')
  obtain rfl := Option.some.inj (hty.symm.trans ht')
  have hcs := cells_of_texts Tryd.underlying58 Tryd.underlying9 (by kernel_rfl) (by kernel_rfl) hdd
  intro j hj
  have hv := World.var?_cell hg hvar j
  rw [← Array.getElem?_toList, hcs] at hv
  rw [hv]
  match j, hj with
  | 0, _ => rfl
  | 1, _ => rfl
  | 2, _ => rfl
  | 3, _ => rfl
end Go.Proofs.YtanflcccjjbkgaaDoor
