/-
NumTexts: any number is its digits and is read from them, and any text is a number's, or none's: for every number and every text the call returns true. No condition; the tables of the package of UTF-8 are tied to the program's text.
-/
import Derived.Test.YtnhaejbakgjelaaDoorTxG
import Derived.Test.YtnhaejbakgjelaaDoorRow
import Derived.Test.YtnhaejbakgjelaaDoorCards
import Derived.Test.YtnhaejbakgjelaaDoorTie
import Derived.LaidMore
import Derived.Lay
import Derived.MakeChecks
import Derived.LaidByTextLater
import Derived.OpenShut
import Derived.Stop.Joined
import Derived.SevenTiedAt
import Derived.ShutString
namespace Go.Proofs.YtnhaejbakgjelaaDoor
open Go.ChangeShapes Go.WideShapes Go.ChangeAt Go.RowKit Go.Joins
open Go.ChangeMaps (open_string shut_string)

def listU : List (String × DataW Unit) := [("unicode/utf8.acceptRanges", Rows.laid_unicode_utf8_acceptRanges), ("unicode/utf8.first", Rows.laid_unicode_utf8_first)]
theorem doorU_met (os : Os) (args : Array Value) : laidMetH Tryd.prog listU ((World.laidAll Tryd.prog os listU).forCall (fun _ _ => 0) ⟨#[], args, []⟩).memory := by
  rw [MakeChecks.laidMetH_plain _ _ _ (by kernel_rfl)]; exact laidMet_laidAll _ (by kernel_rfl) (by kernel_rfl)

set_option maxRecDepth 100000 in
theorem numTexts_lifted (os : Os) (started : os.Started) (H : Type) (enc : TypeId × Value → H) :
    ReturnsInHanded {} Tryd.checked os 8 .any (fun w args => (Rows.numTextsSpec.pre enc Tryd.prog Tryd.f8 [] false w args ∧ laidMetH Tryd.prog listU w) ∧ sizedMet enc Tryd.prog Tryd.f8 (OpenSpec.ofChange Rows.numTextsSpec) false w args)
      (Rows.numTextsSpec.post enc Tryd.prog Tryd.f8 false true false false) := by
  refine returnsInHanded_of_change_and (C := Tryd.checked) (X := fun w _ => laidMetH Tryd.prog listU w) (fun _ _ _ hh h => h.of_heap hh) Tryd.own started (by kernel_rfl) Tryd.func8
    (ChangeSpec.witness_shaped (enc := enc) (C := Tryd.checked) (os := os) (X := fun w _ => laidMetH Tryd.prog listU w) false (World.laidAll Tryd.prog os listU) #[.agg #[.int .u64 0, .int .u64 0], .string ⟨#[]⟩] 8 (World.laidAll_os _ _ _) (World.shaped_of_ZipB (by kernel_rfl) (by kernel_rfl)) (by kernel_rfl) (by kernel_rfl) (by kernel_rfl) (doorU_met os _)) ?_
  intro W base args ds gs before hval0 hW _ _ hL _
  have hval : ∀ (j : Nat) t v, Tryd.f8.params[j]? = some t → args[j]? = some v → Value.okWide Tryd.prog W .any base t v := hval0
  have hW' := hW
  obtain ⟨p, q, hA0, hV, rfl, _, _⟩ := hW
  have hA : DataW.TrodAll enc Tryd.prog W 0 (fun _ => true) true Tryd.f8.params.toList args.toList ds p := hA0
  rw [Tryd.params8] at hA hval
  obtain ⟨v0, v1, d0, d1, p0, p1, rfl, rfl, rfl, h0, h1⟩ := trodAll_two hA
  obtain ⟨rfl, rfl⟩ := trodVars_none hV
  obtain ⟨a, ha, rfl, rfl, rfl, wa, wa'⟩ := open_num (hval 0 56 v0 rfl rfl) h0
  obtain ⟨x1, rfl, rfl, rfl, wx1⟩ := open_string Tryd.underlying9 (hval 1 9 v1 rfl rfl) h1
  clear hA0 hval0
  simp only [List.append_nil] at hW'
  refine (numTexts_walk a x1 W ha).mono fun e W' ⟨he, hw⟩ => ?_
  subst he
  exact ⟨_, rfl, post_below (pa := []) (pv := []) hW' (fun _ _ _ => trodAll_mk1 (shut_bool Tryd.underlying4 _)) (fun sp _ => trodAll_mk2 (shut_num wa wa') (shut_string Tryd.underlying9 wx1)) (fun _ _ => rfl) rfl
    hw (ok_one (by kernel_rfl) rfl (okWide_bool_mk Tryd.underlying4 _))⟩

theorem numTexts_row : Rows.NumTextsSaid :=
  OpenClaim.holds_of_wide 8 Tryd.f8 rfl rfl rfl rfl rfl rfl rfl ⟨rfl, rfl, rfl, rfl, rfl⟩ rfl rfl rfl rfl rfl (by kernel_rfl) Tryd.func8 (by kernel_rfl)
    (of_decide_eq_true (by kernel_rfl)) (by unfold Func.isWrapper; first | (rw [if_pos (by decide +kernel)]; kernel_rfl) | (rw [if_neg (by decide +kernel)]; exact ⟨rfl, rfl⟩))
    (fun os started H enc _ => numTexts_lifted os started H enc)

theorem numTexts_card : Rows.NumTextsCardSaid :=
  Claim7.holds_tied_plain_at .later [] [.data, .pinned] true Rows.numTextsCard.stood.harness false
    numTexts_row (fun _ h => by cases h) (by kernel_rfl) (fun _ h => by cases h) numTexts_row_tie rfl ⟨rfl, rfl⟩ (by kernel_rfl) rfl
    (fun f fn hf hfn => by
      obtain rfl : f = 8 := Option.some.inj ((show Tryd.prog.funcNamed "platbook/platbooklaw01.NumTexts" = some 8 by kernel_rfl).symm.trans hf) |>.symm
      obtain rfl : fn = Tryd.f8 := (Option.some.inj (Tryd.func8.symm.trans hfn)).symm
      exact ⟨by kernel_rfl, fun j t ht => by
        rw [Tryd.params8] at ht
        have hm : t ∈ [56, 9] := by simpa using Array.mem_of_getElem? ht
        have hall : ([56, 9].all fun u => !Tryd.prog.wantsStandIn u) = true := by kernel_rfl
        exact (show Tryd.prog.wantsStandIn t = false by simpa using List.all_eq_true.1 hall t hm)⟩)
    (by kernel_rfl)
#print axioms numTexts_card
end Go.Proofs.YtnhaejbakgjelaaDoor
