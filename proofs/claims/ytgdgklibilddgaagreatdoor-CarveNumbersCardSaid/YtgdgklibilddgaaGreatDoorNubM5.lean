/-
CarveNumbers: the number of a block and of an address is what the reference tells; it is the way back: for every two prefixes and every address the call returns true. No condition; the listed variables are tied to the program's text.
-/
import Derived.ProofKit
import Derived.ChangeSame
import Derived.LaidMore
import Derived.Lay
import Derived.MakeChecks
import Derived.LaidByTextLater
import Derived.OpenShut
import Derived.Stop.Joined
import Derived.Stop.LaidErr
import Derived.Handed
import Derived.Shelf.Vars
import Derived.Lib.SmallJoins
import Derived.Carry
import Derived.SevenTiedAt
import Derived.ShutString
import Derived.Test.YtgdgklibilddgaaGreatDoorNubM4
import Derived.Test.YtgdgklibilddgaaGreatDoorRows
import Derived.Test.YtgdgklibilddgaaGreatDoorCards
import Derived.Test.YtgdgklibilddgaaGreatDoorTie
set_option linter.unusedVariables false
set_option linter.unusedSimpArgs false
namespace Go.Proofs.YtgdgklibilddgaaGreatDoor.PPr
open Go.RowKit Go.Proofs.YtgdgklibilddgaaGreatDoorW.PrintWords Go.Proofs.YtgdgklibilddgaaGreatDoorW.PrintLast Go.Proofs.YtgdgklibilddgaaGreatDoorW.PrintMore
attribute [local go_sem] max2_int min2_int max_two min_two max_three min_three max_four min_four   -- for this text's walks alone

attribute [local go_sem high] eqA24 eqA26 eqA38
mutual
def platbooklaw04_CarveNumbers.j0 : Nat → Int → Int → Bool → Bool → Int → Int → Int → Bool → Int → Int → Int → Bool → Int → Int → Int → Int → Int → Int → Option (Bool)
 | 0, _, _, _, _, _, _, _, _, _, _, _, _, _, _, _, _, _, _ => none
 | k + 1, x8, x12, x62, x801000, x801001, x801002, x801003, x802000, x802001, x802002, x802003, x803000, x803001, x803002, x808000, x808001, x816000, x816001 => if x62 = true then (some false) else (if x8 = 0 then ((carve_Block.f x801000 x801001 x801002 x801003 x802003 x808000 x808001).bind fun bt820 => (if ((!(bt820.1 == x802000) || ((!(bt820.2.1 == x802001) || (!(bt820.2.2.1 == x802002))))) || (!(bt820.2.2.2.1 == x802003))) = true then (platbooklaw04_CarveNumbers.j1 k x12 true x801000 x801001 x801002 x801003 x803000 x803001 x803002 x816000 x816001) else (platbooklaw04_CarveNumbers.j1 k x12 (bt820.2.2.2.2 != 0) x801000 x801001 x801002 x801003 x803000 x803001 x803002 x816000 x816001))) else (if x12 = 0 then ((carve_Host.f x801000 x801001 x801002 x801003 x816000 x816001).bind fun bt831 => (if (bt831.1 == x803000 && ((bt831.2.1 == x803001 && (bt831.2.2.1 == x803002)))) = true then (some (bt831.2.2.2 == 0)) else (some false))) else (some true)))
def platbooklaw04_CarveNumbers.j1 : Nat → Int → Bool → Bool → Int → Int → Int → Bool → Int → Int → Int → Int → Option (Bool)
 | 0, _, _, _, _, _, _, _, _, _, _, _ => none
 | k + 1, x12, x79, x801000, x801001, x801002, x801003, x803000, x803001, x803002, x816000, x816001 => if x79 = true then (some false) else (if x12 = 0 then ((carve_Host.f x801000 x801001 x801002 x801003 x816000 x816001).bind fun bt826 => (if (bt826.1 == x803000 && ((bt826.2.1 == x803001 && (bt826.2.2.1 == x803002)))) = true then (some (bt826.2.2.2 == 0)) else (some false))) else (some true))
end
def platbooklaw04_CarveNumbers.f (k : Nat) (a0_0 : Bool) (a0_1 : Int) (a0_2 : Int) (a0_3 : Int) (a1_0 : Bool) (a1_1 : Int) (a1_2 : Int) (a1_3 : Int) (a2_0 : Bool) (a2_1 : Int) (a2_2 : Int) : Option (Bool) := (platbooklaw04_awake.f k).bind fun t803 => (if t803 = true then ((carve_Index.f k a0_0 a0_1 a0_2 a0_3 a1_0 a1_1 a1_2 a1_3).bind fun bt804 => ((platbookref04_Index.f k a0_0 a0_1 a0_2 a0_3 a1_0 a1_1 a1_2 a1_3).bind fun bt808 => ((carve_Number.f k a0_0 a0_1 a0_2 a0_3 a2_0 a2_1 a2_2).bind fun bt812 => ((platbookref04_Number.f k a0_0 a0_1 a0_2 a0_3 a2_0 a2_1 a2_2).bind fun bt816 => (if (!(bt804.1 == bt808.1) || (!(bt804.2.1 == bt808.2.1))) = true then (platbooklaw04_CarveNumbers.j0 k bt804.2.2 bt812.2.2 true a0_0 a0_1 a0_2 a0_3 a1_0 a1_1 a1_2 a1_3 a2_0 a2_1 a2_2 bt804.1 bt804.2.1 bt812.1 bt812.2.1) else (if bt804.2.2 = bt808.2.2 then (if (!(bt812.1 == bt816.1) || (!(bt812.2.1 == bt816.2.1))) = true then (platbooklaw04_CarveNumbers.j0 k bt804.2.2 bt812.2.2 true a0_0 a0_1 a0_2 a0_3 a1_0 a1_1 a1_2 a1_3 a2_0 a2_1 a2_2 bt804.1 bt804.2.1 bt812.1 bt812.2.1) else (platbooklaw04_CarveNumbers.j0 k bt804.2.2 bt812.2.2 (bt812.2.2 != bt816.2.2) a0_0 a0_1 a0_2 a0_3 a1_0 a1_1 a1_2 a1_3 a2_0 a2_1 a2_2 bt804.1 bt804.2.1 bt812.1 bt812.2.1)) else (platbooklaw04_CarveNumbers.j0 k bt804.2.2 bt812.2.2 true a0_0 a0_1 a0_2 a0_3 a1_0 a1_1 a1_2 a1_3 a2_0 a2_1 a2_2 bt804.1 bt804.2.1 bt812.1 bt812.2.1))))))) else (some false))
set_option maxHeartbeats 8000000 in
set_option maxRecDepth 100000 in
theorem platbooklaw04_CarveNumbers.calls (k : Nat) (a0_0 : Bool) (a0_1 : Int) (a0_2 : Int) (a0_3 : Int) (a1_0 : Bool) (a1_1 : Int) (a1_2 : Int) (a1_3 : Int) (a2_0 : Bool) (a2_1 : Int) (a2_2 : Int) (r : Bool) (w : World) (hG : Glob w) (hrt : r = true) (h : platbooklaw04_CarveNumbers.f k a0_0 a0_1 a0_2 a0_3 a1_0 a1_1 a1_2 a1_3 a2_0 a2_1 a2_2 = some r) :
  Calls Tryz.prog 12 #[.agg #[.bool a0_0, .int .u64 a0_1, .int .u64 a0_2, .int .i64 a0_3], .agg #[.bool a1_0, .int .u64 a1_1, .int .u64 a1_2, .int .i64 a1_3], .agg #[.bool a2_0, .int .u64 a2_1, .int .u64 a2_2]] w fun e w' => e = .returned (.bool r) ∧ Below w.heap.size w w' := by
 have hu38 := Tryz.underlying38
 have hu26 := Tryz.underlying26
 have hu24 := Tryz.underlying24
 have HGLB := Aside0.mk hG
 clear hG
 have HRT := Aside0.mk hrt
 clear hrt
 have HB := Aside0.mk (Below.refl w.heap.size w)
 have H : ((platbooklaw04_awake.f k).bind fun t803 => (if t803 = true then ((carve_Index.f k a0_0 a0_1 a0_2 a0_3 a1_0 a1_1 a1_2 a1_3).bind fun bt804 => ((platbookref04_Index.f k a0_0 a0_1 a0_2 a0_3 a1_0 a1_1 a1_2 a1_3).bind fun bt808 => ((carve_Number.f k a0_0 a0_1 a0_2 a0_3 a2_0 a2_1 a2_2).bind fun bt812 => ((platbookref04_Number.f k a0_0 a0_1 a0_2 a0_3 a2_0 a2_1 a2_2).bind fun bt816 => (if (!(bt804.1 == bt808.1) || (!(bt804.2.1 == bt808.2.1))) = true then (platbooklaw04_CarveNumbers.j0 k bt804.2.2 bt812.2.2 true a0_0 a0_1 a0_2 a0_3 a1_0 a1_1 a1_2 a1_3 a2_0 a2_1 a2_2 bt804.1 bt804.2.1 bt812.1 bt812.2.1) else (if bt804.2.2 = bt808.2.2 then (if (!(bt812.1 == bt816.1) || (!(bt812.2.1 == bt816.2.1))) = true then (platbooklaw04_CarveNumbers.j0 k bt804.2.2 bt812.2.2 true a0_0 a0_1 a0_2 a0_3 a1_0 a1_1 a1_2 a1_3 a2_0 a2_1 a2_2 bt804.1 bt804.2.1 bt812.1 bt812.2.1) else (platbooklaw04_CarveNumbers.j0 k bt804.2.2 bt812.2.2 (bt812.2.2 != bt816.2.2) a0_0 a0_1 a0_2 a0_3 a1_0 a1_1 a1_2 a1_3 a2_0 a2_1 a2_2 bt804.1 bt804.2.1 bt812.1 bt812.2.1)) else (platbooklaw04_CarveNumbers.j0 k bt804.2.2 bt812.2.2 true a0_0 a0_1 a0_2 a0_3 a1_0 a1_1 a1_2 a1_3 a2_0 a2_1 a2_2 bt804.1 bt804.2.1 bt812.1 bt812.2.1))))))) else (some false))) = some r := h
 clear h
 replace H := Option.bind_eq_some_iff.mp H
 obtain ⟨t803, A40, H⟩ := H
 replace H : (if t803 = true then ((carve_Index.f k a0_0 a0_1 a0_2 a0_3 a1_0 a1_1 a1_2 a1_3).bind fun bt804 => ((platbookref04_Index.f k a0_0 a0_1 a0_2 a0_3 a1_0 a1_1 a1_2 a1_3).bind fun bt808 => ((carve_Number.f k a0_0 a0_1 a0_2 a0_3 a2_0 a2_1 a2_2).bind fun bt812 => ((platbookref04_Number.f k a0_0 a0_1 a0_2 a0_3 a2_0 a2_1 a2_2).bind fun bt816 => (if (!(bt804.1 == bt808.1) || (!(bt804.2.1 == bt808.2.1))) = true then (platbooklaw04_CarveNumbers.j0 k bt804.2.2 bt812.2.2 true a0_0 a0_1 a0_2 a0_3 a1_0 a1_1 a1_2 a1_3 a2_0 a2_1 a2_2 bt804.1 bt804.2.1 bt812.1 bt812.2.1) else (if bt804.2.2 = bt808.2.2 then (if (!(bt812.1 == bt816.1) || (!(bt812.2.1 == bt816.2.1))) = true then (platbooklaw04_CarveNumbers.j0 k bt804.2.2 bt812.2.2 true a0_0 a0_1 a0_2 a0_3 a1_0 a1_1 a1_2 a1_3 a2_0 a2_1 a2_2 bt804.1 bt804.2.1 bt812.1 bt812.2.1) else (platbooklaw04_CarveNumbers.j0 k bt804.2.2 bt812.2.2 (bt812.2.2 != bt816.2.2) a0_0 a0_1 a0_2 a0_3 a1_0 a1_1 a1_2 a1_3 a2_0 a2_1 a2_2 bt804.1 bt804.2.1 bt812.1 bt812.2.1)) else (platbooklaw04_CarveNumbers.j0 k bt804.2.2 bt812.2.2 true a0_0 a0_1 a0_2 a0_3 a1_0 a1_1 a1_2 a1_3 a2_0 a2_1 a2_2 bt804.1 bt804.2.1 bt812.1 bt812.2.1))))))) else (some false)) = some r := H
 have A4 := Aside0.mk A40
 clear A40
 by_cases c5 : t803 = true
 ·
  subst c5
  rw [if_pos rfl] at H
  replace H := Option.bind_eq_some_iff.mp H
  obtain ⟨⟨t804, t805, t806⟩, A60, H⟩ := H
  replace H : ((platbookref04_Index.f k a0_0 a0_1 a0_2 a0_3 a1_0 a1_1 a1_2 a1_3).bind fun bt808 => ((carve_Number.f k a0_0 a0_1 a0_2 a0_3 a2_0 a2_1 a2_2).bind fun bt812 => ((platbookref04_Number.f k a0_0 a0_1 a0_2 a0_3 a2_0 a2_1 a2_2).bind fun bt816 => (if (!(t804 == bt808.1) || (!(t805 == bt808.2.1))) = true then (platbooklaw04_CarveNumbers.j0 k t806 bt812.2.2 true a0_0 a0_1 a0_2 a0_3 a1_0 a1_1 a1_2 a1_3 a2_0 a2_1 a2_2 t804 t805 bt812.1 bt812.2.1) else (if t806 = bt808.2.2 then (if (!(bt812.1 == bt816.1) || (!(bt812.2.1 == bt816.2.1))) = true then (platbooklaw04_CarveNumbers.j0 k t806 bt812.2.2 true a0_0 a0_1 a0_2 a0_3 a1_0 a1_1 a1_2 a1_3 a2_0 a2_1 a2_2 t804 t805 bt812.1 bt812.2.1) else (platbooklaw04_CarveNumbers.j0 k t806 bt812.2.2 (bt812.2.2 != bt816.2.2) a0_0 a0_1 a0_2 a0_3 a1_0 a1_1 a1_2 a1_3 a2_0 a2_1 a2_2 t804 t805 bt812.1 bt812.2.1)) else (platbooklaw04_CarveNumbers.j0 k t806 bt812.2.2 true a0_0 a0_1 a0_2 a0_3 a1_0 a1_1 a1_2 a1_3 a2_0 a2_1 a2_2 t804 t805 bt812.1 bt812.2.1)))))) = some r := H
  have A6 := Aside0.mk A60
  clear A60
  replace H := Option.bind_eq_some_iff.mp H
  obtain ⟨⟨t808, t809, t810⟩, A70, H⟩ := H
  replace H : ((carve_Number.f k a0_0 a0_1 a0_2 a0_3 a2_0 a2_1 a2_2).bind fun bt812 => ((platbookref04_Number.f k a0_0 a0_1 a0_2 a0_3 a2_0 a2_1 a2_2).bind fun bt816 => (if (!(t804 == t808) || (!(t805 == t809))) = true then (platbooklaw04_CarveNumbers.j0 k t806 bt812.2.2 true a0_0 a0_1 a0_2 a0_3 a1_0 a1_1 a1_2 a1_3 a2_0 a2_1 a2_2 t804 t805 bt812.1 bt812.2.1) else (if t806 = t810 then (if (!(bt812.1 == bt816.1) || (!(bt812.2.1 == bt816.2.1))) = true then (platbooklaw04_CarveNumbers.j0 k t806 bt812.2.2 true a0_0 a0_1 a0_2 a0_3 a1_0 a1_1 a1_2 a1_3 a2_0 a2_1 a2_2 t804 t805 bt812.1 bt812.2.1) else (platbooklaw04_CarveNumbers.j0 k t806 bt812.2.2 (bt812.2.2 != bt816.2.2) a0_0 a0_1 a0_2 a0_3 a1_0 a1_1 a1_2 a1_3 a2_0 a2_1 a2_2 t804 t805 bt812.1 bt812.2.1)) else (platbooklaw04_CarveNumbers.j0 k t806 bt812.2.2 true a0_0 a0_1 a0_2 a0_3 a1_0 a1_1 a1_2 a1_3 a2_0 a2_1 a2_2 t804 t805 bt812.1 bt812.2.1))))) = some r := H
  have A7 := Aside0.mk A70
  clear A70
  replace H := Option.bind_eq_some_iff.mp H
  obtain ⟨⟨t812, t813, t814⟩, A80, H⟩ := H
  replace H : ((platbookref04_Number.f k a0_0 a0_1 a0_2 a0_3 a2_0 a2_1 a2_2).bind fun bt816 => (if (!(t804 == t808) || (!(t805 == t809))) = true then (platbooklaw04_CarveNumbers.j0 k t806 t814 true a0_0 a0_1 a0_2 a0_3 a1_0 a1_1 a1_2 a1_3 a2_0 a2_1 a2_2 t804 t805 t812 t813) else (if t806 = t810 then (if (!(t812 == bt816.1) || (!(t813 == bt816.2.1))) = true then (platbooklaw04_CarveNumbers.j0 k t806 t814 true a0_0 a0_1 a0_2 a0_3 a1_0 a1_1 a1_2 a1_3 a2_0 a2_1 a2_2 t804 t805 t812 t813) else (platbooklaw04_CarveNumbers.j0 k t806 t814 (t814 != bt816.2.2) a0_0 a0_1 a0_2 a0_3 a1_0 a1_1 a1_2 a1_3 a2_0 a2_1 a2_2 t804 t805 t812 t813)) else (platbooklaw04_CarveNumbers.j0 k t806 t814 true a0_0 a0_1 a0_2 a0_3 a1_0 a1_1 a1_2 a1_3 a2_0 a2_1 a2_2 t804 t805 t812 t813)))) = some r := H
  have A8 := Aside0.mk A80
  clear A80
  replace H := Option.bind_eq_some_iff.mp H
  obtain ⟨⟨t816, t817, t818⟩, A90, H⟩ := H
  replace H : (if (!(t804 == t808) || (!(t805 == t809))) = true then (platbooklaw04_CarveNumbers.j0 k t806 t814 true a0_0 a0_1 a0_2 a0_3 a1_0 a1_1 a1_2 a1_3 a2_0 a2_1 a2_2 t804 t805 t812 t813) else (if t806 = t810 then (if (!(t812 == t816) || (!(t813 == t817))) = true then (platbooklaw04_CarveNumbers.j0 k t806 t814 true a0_0 a0_1 a0_2 a0_3 a1_0 a1_1 a1_2 a1_3 a2_0 a2_1 a2_2 t804 t805 t812 t813) else (platbooklaw04_CarveNumbers.j0 k t806 t814 (t814 != t818) a0_0 a0_1 a0_2 a0_3 a1_0 a1_1 a1_2 a1_3 a2_0 a2_1 a2_2 t804 t805 t812 t813)) else (platbooklaw04_CarveNumbers.j0 k t806 t814 true a0_0 a0_1 a0_2 a0_3 a1_0 a1_1 a1_2 a1_3 a2_0 a2_1 a2_2 t804 t805 t812 t813))) = some r := H
  have A9 := Aside0.mk A90
  clear A90
  have HC10 := Aside0.mk H
  clear H
  go_enter Tryz.func12, Tryz.ntmps12
  go_upto_region 7 with (first | ((with_reducible refine gate_dst (N := 3) rfl ?_); refine bx_ 3 #[.bool a0_0, .int .u64 a0_1, .int .u64 a0_2, .int .i64 a0_3] 38 ?_; intro gb800 hg w11 hbox hb; have BK800 := Aside0.mk (hbox); have GW800 := gw_ HB hg; have GE800 := gw_ HB hg; replace HB := bs_ HB hb; clear hb hbox hg) | ((with_reducible refine gate_dst (N := 4) rfl ?_); refine bx_ 4 #[.bool a1_0, .int .u64 a1_1, .int .u64 a1_2, .int .i64 a1_3] 38 ?_; intro gb801 hg w12 hbox hb; have BK801 := Aside0.mk (hbox); have GW801 := gw_ HB hg; have GE801 := gw_ HB hg; have NB800_801 := nl_ BK800 hg; have NB801_800 := ng_ BK800 hg; replace BK800 := bb_ BK800 hb; replace HB := bs_ HB hb; clear hb hbox hg) | ((with_reducible refine gate_dst (N := 5) rfl ?_); refine bx_ 5 #[.bool a2_0, .int .u64 a2_1, .int .u64 a2_2] 26 ?_; intro gb802 hg w13 hbox hb; have BK802 := Aside0.mk (hbox); have GW802 := gw_ HB hg; have GE802 := gw_ HB hg; have NB800_802 := nl_ BK800 hg; have NB802_800 := ng_ BK800 hg; have NB801_802 := nl_ BK801 hg; have NB802_801 := ng_ BK801 hg; replace BK800 := bb_ BK800 hb; replace BK801 := bb_ BK801 hb; replace HB := bs_ HB hb; clear hb hbox hg) | ((with_reducible refine gate_callee (f := 46) rfl ?_); refine gl_ (some 19) Tryz.func46 #[] ?_; (with_reducible refine (platbooklaw04_awake.calls k  true _ ?side1 rfl A4.out).mono ?_); (case side1 => exact glob_keep HGLB.out (pb_ HB)); rintro e w14 ⟨rfl, hb⟩; refine ⟨_, rfl, ?_⟩; replace BK800 := bb_ BK800 hb; replace BK801 := bb_ BK801 hb; replace BK802 := bb_ BK802 hb; replace HB := bs_ HB hb; (try clear hb); (try clear hb2); (try clear hk); (try clear hi); have hnb15 := NB800_801.out; have hnc15 := NB801_800.out; have hnb16 := NB800_802.out; have hnc16 := NB802_800.out; obtain ⟨hcz17_0, hcz17_1, hcz17_2, hcz17_3, hfz17_0, hfz17_1, hfz17_2, hfz17_3⟩ := c4_ BK800; have hnb18 := NB801_802.out; have hnc18 := NB802_801.out; obtain ⟨hcz19_0, hcz19_1, hcz19_2, hcz19_3, hfz19_0, hfz19_1, hfz19_2, hfz19_3⟩ := c4_ BK801) | ((with_reducible refine gate_callee (f := 60) rfl ?_); refine gl_ (some 24) Tryz.func60 #[.agg #[.bool a0_0, .int .u64 a0_1, .int .u64 a0_2, .int .i64 a0_3], .agg #[.bool a1_0, .int .u64 a1_1, .int .u64 a1_2, .int .i64 a1_3]] ?_; (with_reducible refine (carve_Index.calls k a0_0 a0_1 a0_2 a0_3 a1_0 a1_1 a1_2 a1_3 t804 t805 t806 _ A6.out).mono ?_); rintro e w20 ⟨rfl, hb⟩; refine ⟨_, rfl, ?_⟩; replace BK800 := bb_ BK800 hb; replace BK801 := bb_ BK801 hb; replace BK802 := bb_ BK802 hb; replace HB := bs_ HB hb; (try clear hb); (try clear hb2); (try clear hk); (try clear hi)) | ((with_reducible refine gate_dst (N := 7) rfl ?_); refine bx_ 7 #[.int .u64 0, .int .u64 0] 24 ?_; intro gb807 hg w21 hbox hb; have BK807 := Aside0.mk (hbox); have GW807 := gw_ HB hg; have GE807 := gw_ HB hg; have NB800_807 := nl_ BK800 hg; have NB807_800 := ng_ BK800 hg; have NB801_807 := nl_ BK801 hg; have NB807_801 := ng_ BK801 hg; have NB802_807 := nl_ BK802 hg; have NB807_802 := ng_ BK802 hg; replace BK800 := bb_ BK800 hb; replace BK801 := bb_ BK801 hb; replace BK802 := bb_ BK802 hb; replace HB := bs_ HB hb; clear hb hbox hg; have hnb22 := NB807_800.out; have hnc22 := NB800_807.out; have hnb23 := NB807_801.out; have hnc23 := NB801_807.out; have hnb24 := NB807_802.out; have hnc24 := NB802_807.out; obtain ⟨hcz25_0, hcz25_1, hfz25_0, hfz25_1⟩ := c2_ BK807; obtain ⟨hcz26_0, hcz26_1, hcz26_2, hcz26_3, hfz26_0, hfz26_1, hfz26_2, hfz26_3⟩ := c4_ BK800; obtain ⟨hcz27_0, hcz27_1, hcz27_2, hcz27_3, hfz27_0, hfz27_1, hfz27_2, hfz27_3⟩ := c4_ BK801) | ((with_reducible refine gate_callee (f := 61) rfl ?_); refine gl_ (some 30) Tryz.func61 #[.agg #[.bool a0_0, .int .u64 a0_1, .int .u64 a0_2, .int .i64 a0_3], .agg #[.bool a1_0, .int .u64 a1_1, .int .u64 a1_2, .int .i64 a1_3]] ?_; (with_reducible refine (platbookref04_Index.calls k a0_0 a0_1 a0_2 a0_3 a1_0 a1_1 a1_2 a1_3 t808 t809 t810 _ A7.out).mono ?_); rintro e w28 ⟨rfl, hb⟩; refine ⟨_, rfl, ?_⟩; replace BK800 := Aside0.mk (blk_below (g := gb800) (o := .cells #[.bool a0_0, .int .u64 a0_1, .int .u64 a0_2, .int .i64 a0_3] 38 (0, 0)) (by refine pw_ ?_; refine blk_far ?_ NB800_807.out _; refine pw_ ?_; refine blk_far ?_ NB800_807.out _; refine pw_ ?_; exact BK800.out) hb); replace BK801 := Aside0.mk (blk_below (g := gb801) (o := .cells #[.bool a1_0, .int .u64 a1_1, .int .u64 a1_2, .int .i64 a1_3] 38 (0, 0)) (by refine pw_ ?_; refine blk_far ?_ NB801_807.out _; refine pw_ ?_; refine blk_far ?_ NB801_807.out _; refine pw_ ?_; exact BK801.out) hb); replace BK802 := Aside0.mk (blk_below (g := gb802) (o := .cells #[.bool a2_0, .int .u64 a2_1, .int .u64 a2_2] 26 (0, 0)) (by refine pw_ ?_; refine blk_far ?_ NB802_807.out _; refine pw_ ?_; refine blk_far ?_ NB802_807.out _; refine pw_ ?_; exact BK802.out) hb); replace BK807 := Aside0.mk (blk_below (g := gb807) (o := .cells #[.int .u64 t804, .int .u64 t805] 24 (0, 0)) (by refine pw_ ?_; refine blk_put (cs := #[.int .u64 t804, .int .u64 0]) ?_ 1 _ rfl; refine pw_ ?_; refine blk_put (cs := #[.int .u64 0, .int .u64 0]) ?_ 0 _ rfl; refine pw_ ?_; exact BK807.out) hb); replace HB := bs_ HB hb; (try clear hb); (try clear hb2); (try clear hk); (try clear hi)) | ((with_reducible refine gate_dst (N := 9) rfl ?_); refine bx_ 9 #[.int .u64 0, .int .u64 0] 24 ?_; intro gb811 hg w29 hbox hb; have BK811 := Aside0.mk (hbox); have GW811 := gw_ HB hg; have GE811 := gw_ HB hg; have NB800_811 := nl_ BK800 hg; have NB811_800 := ng_ BK800 hg; have NB801_811 := nl_ BK801 hg; have NB811_801 := ng_ BK801 hg; have NB802_811 := nl_ BK802 hg; have NB811_802 := ng_ BK802 hg; have NB807_811 := nl_ BK807 hg; have NB811_807 := ng_ BK807 hg; replace BK800 := bb_ BK800 hb; replace BK801 := bb_ BK801 hb; replace BK802 := bb_ BK802 hb; replace BK807 := bb_ BK807 hb; replace HB := bs_ HB hb; clear hb hbox hg; have hnb30 := NB811_800.out; have hnc30 := NB800_811.out; have hnb31 := NB811_801.out; have hnc31 := NB801_811.out; have hnb32 := NB811_802.out; have hnc32 := NB802_811.out; have hnb33 := NB811_807.out; have hnc33 := NB807_811.out; obtain ⟨hcz34_0, hcz34_1, hfz34_0, hfz34_1⟩ := c2_ BK811; obtain ⟨hcz35_0, hcz35_1, hcz35_2, hcz35_3, hfz35_0, hfz35_1, hfz35_2, hfz35_3⟩ := c4_ BK800; obtain ⟨hcz36_0, hcz36_1, hcz36_2, hfz36_0, hfz36_1, hfz36_2⟩ := c3_ BK802) | ((with_reducible refine gate_callee (f := 54) rfl ?_); refine gl_ (some 36) Tryz.func54 #[.agg #[.bool a0_0, .int .u64 a0_1, .int .u64 a0_2, .int .i64 a0_3], .agg #[.bool a2_0, .int .u64 a2_1, .int .u64 a2_2]] ?_; (with_reducible refine (carve_Number.calls k a0_0 a0_1 a0_2 a0_3 a2_0 a2_1 a2_2 t812 t813 t814 _ A8.out).mono ?_); rintro e w37 ⟨rfl, hb⟩; refine ⟨_, rfl, ?_⟩; replace BK800 := Aside0.mk (blk_below (g := gb800) (o := .cells #[.bool a0_0, .int .u64 a0_1, .int .u64 a0_2, .int .i64 a0_3] 38 (0, 0)) (by refine pw_ ?_; refine blk_far ?_ NB800_811.out _; refine pw_ ?_; refine blk_far ?_ NB800_811.out _; refine pw_ ?_; exact BK800.out) hb); replace BK801 := Aside0.mk (blk_below (g := gb801) (o := .cells #[.bool a1_0, .int .u64 a1_1, .int .u64 a1_2, .int .i64 a1_3] 38 (0, 0)) (by refine pw_ ?_; refine blk_far ?_ NB801_811.out _; refine pw_ ?_; refine blk_far ?_ NB801_811.out _; refine pw_ ?_; exact BK801.out) hb); replace BK802 := Aside0.mk (blk_below (g := gb802) (o := .cells #[.bool a2_0, .int .u64 a2_1, .int .u64 a2_2] 26 (0, 0)) (by refine pw_ ?_; refine blk_far ?_ NB802_811.out _; refine pw_ ?_; refine blk_far ?_ NB802_811.out _; refine pw_ ?_; exact BK802.out) hb); replace BK807 := Aside0.mk (blk_below (g := gb807) (o := .cells #[.int .u64 t804, .int .u64 t805] 24 (0, 0)) (by refine pw_ ?_; refine blk_far ?_ NB807_811.out _; refine pw_ ?_; refine blk_far ?_ NB807_811.out _; refine pw_ ?_; exact BK807.out) hb); replace BK811 := Aside0.mk (blk_below (g := gb811) (o := .cells #[.int .u64 t808, .int .u64 t809] 24 (0, 0)) (by refine pw_ ?_; refine blk_put (cs := #[.int .u64 t808, .int .u64 0]) ?_ 1 _ rfl; refine pw_ ?_; refine blk_put (cs := #[.int .u64 0, .int .u64 0]) ?_ 0 _ rfl; refine pw_ ?_; exact BK811.out) hb); replace HB := bs_ HB hb; (try clear hb); (try clear hb2); (try clear hk); (try clear hi)) | ((with_reducible refine gate_dst (N := 11) rfl ?_); refine bx_ 11 #[.int .u64 0, .int .u64 0] 24 ?_; intro gb815 hg w38 hbox hb; have BK815 := Aside0.mk (hbox); have GW815 := gw_ HB hg; have GE815 := gw_ HB hg; have NB800_815 := nl_ BK800 hg; have NB815_800 := ng_ BK800 hg; have NB801_815 := nl_ BK801 hg; have NB815_801 := ng_ BK801 hg; have NB802_815 := nl_ BK802 hg; have NB815_802 := ng_ BK802 hg; have NB807_815 := nl_ BK807 hg; have NB815_807 := ng_ BK807 hg; have NB811_815 := nl_ BK811 hg; have NB815_811 := ng_ BK811 hg; replace BK800 := bb_ BK800 hb; replace BK801 := bb_ BK801 hb; replace BK802 := bb_ BK802 hb; replace BK807 := bb_ BK807 hb; replace BK811 := bb_ BK811 hb; replace HB := bs_ HB hb; clear hb hbox hg; have hnb39 := NB815_800.out; have hnc39 := NB800_815.out; have hnb40 := NB815_801.out; have hnc40 := NB801_815.out; have hnb41 := NB815_802.out; have hnc41 := NB802_815.out; have hnb42 := NB815_807.out; have hnc42 := NB807_815.out; have hnb43 := NB815_811.out; have hnc43 := NB811_815.out; obtain ⟨hcz44_0, hcz44_1, hfz44_0, hfz44_1⟩ := c2_ BK815; obtain ⟨hcz45_0, hcz45_1, hcz45_2, hcz45_3, hfz45_0, hfz45_1, hfz45_2, hfz45_3⟩ := c4_ BK800; obtain ⟨hcz46_0, hcz46_1, hcz46_2, hfz46_0, hfz46_1, hfz46_2⟩ := c3_ BK802) | ((with_reducible refine gate_callee (f := 62) rfl ?_); refine gl_ (some 42) Tryz.func62 #[.agg #[.bool a0_0, .int .u64 a0_1, .int .u64 a0_2, .int .i64 a0_3], .agg #[.bool a2_0, .int .u64 a2_1, .int .u64 a2_2]] ?_; (with_reducible refine (platbookref04_Number.calls k a0_0 a0_1 a0_2 a0_3 a2_0 a2_1 a2_2 t816 t817 t818 _ A9.out).mono ?_); rintro e w47 ⟨rfl, hb⟩; refine ⟨_, rfl, ?_⟩; replace BK800 := Aside0.mk (blk_below (g := gb800) (o := .cells #[.bool a0_0, .int .u64 a0_1, .int .u64 a0_2, .int .i64 a0_3] 38 (0, 0)) (by refine pw_ ?_; refine blk_far ?_ NB800_815.out _; refine pw_ ?_; refine blk_far ?_ NB800_815.out _; refine pw_ ?_; exact BK800.out) hb); replace BK801 := Aside0.mk (blk_below (g := gb801) (o := .cells #[.bool a1_0, .int .u64 a1_1, .int .u64 a1_2, .int .i64 a1_3] 38 (0, 0)) (by refine pw_ ?_; refine blk_far ?_ NB801_815.out _; refine pw_ ?_; refine blk_far ?_ NB801_815.out _; refine pw_ ?_; exact BK801.out) hb); replace BK802 := Aside0.mk (blk_below (g := gb802) (o := .cells #[.bool a2_0, .int .u64 a2_1, .int .u64 a2_2] 26 (0, 0)) (by refine pw_ ?_; refine blk_far ?_ NB802_815.out _; refine pw_ ?_; refine blk_far ?_ NB802_815.out _; refine pw_ ?_; exact BK802.out) hb); replace BK807 := Aside0.mk (blk_below (g := gb807) (o := .cells #[.int .u64 t804, .int .u64 t805] 24 (0, 0)) (by refine pw_ ?_; refine blk_far ?_ NB807_815.out _; refine pw_ ?_; refine blk_far ?_ NB807_815.out _; refine pw_ ?_; exact BK807.out) hb); replace BK811 := Aside0.mk (blk_below (g := gb811) (o := .cells #[.int .u64 t808, .int .u64 t809] 24 (0, 0)) (by refine pw_ ?_; refine blk_far ?_ NB811_815.out _; refine pw_ ?_; refine blk_far ?_ NB811_815.out _; refine pw_ ?_; exact BK811.out) hb); replace BK815 := Aside0.mk (blk_below (g := gb815) (o := .cells #[.int .u64 t812, .int .u64 t813] 24 (0, 0)) (by refine pw_ ?_; refine blk_put (cs := #[.int .u64 t812, .int .u64 0]) ?_ 1 _ rfl; refine pw_ ?_; refine blk_put (cs := #[.int .u64 0, .int .u64 0]) ?_ 0 _ rfl; refine pw_ ?_; exact BK815.out) hb); replace HB := bs_ HB hb; (try clear hb); (try clear hb2); (try clear hk); (try clear hi)) | ((with_reducible refine gate_dst (N := 13) rfl ?_); refine bx_ 13 #[.int .u64 0, .int .u64 0] 24 ?_; intro gb819 hg w48 hbox hb; have BK819 := Aside0.mk (hbox); have GW819 := gw_ HB hg; have GE819 := gw_ HB hg; have NB800_819 := nl_ BK800 hg; have NB819_800 := ng_ BK800 hg; have NB801_819 := nl_ BK801 hg; have NB819_801 := ng_ BK801 hg; have NB802_819 := nl_ BK802 hg; have NB819_802 := ng_ BK802 hg; have NB807_819 := nl_ BK807 hg; have NB819_807 := ng_ BK807 hg; have NB811_819 := nl_ BK811 hg; have NB819_811 := ng_ BK811 hg; have NB815_819 := nl_ BK815 hg; have NB819_815 := ng_ BK815 hg; replace BK800 := bb_ BK800 hb; replace BK801 := bb_ BK801 hb; replace BK802 := bb_ BK802 hb; replace BK807 := bb_ BK807 hb; replace BK811 := bb_ BK811 hb; replace BK815 := bb_ BK815 hb; replace HB := bs_ HB hb; clear hb hbox hg; have hnb49 := NB819_800.out; have hnc49 := NB800_819.out; have hnb50 := NB819_801.out; have hnc50 := NB801_819.out; have hnb51 := NB819_802.out; have hnc51 := NB802_819.out; have hnb52 := NB819_807.out; have hnc52 := NB807_819.out; have hnb53 := NB819_811.out; have hnc53 := NB811_819.out; have hnb54 := NB819_815.out; have hnc54 := NB815_819.out; obtain ⟨hcz55_0, hcz55_1, hfz55_0, hfz55_1⟩ := c2_ BK819))
  (try simp only [Act.put, List.setIfInBounds_toArray, List.set_cons_zero, List.set_cons_succ])
  go_cut [62] (fun v62 wc => ∃ (kq : Nat) (x62_9 : Bool), v62 = .bool x62_9 ∧ Aside0 (platbooklaw04_CarveNumbers.j0 kq t806 t814 x62_9 a0_0 a0_1 a0_2 a0_3 a1_0 a1_1 a1_2 a1_3 a2_0 a2_1 a2_2 t804 t805 t812 t813 = some r) ∧ Aside0 (kq ≤ k) ∧ Aside0 (wc.heap[gb800]? = some (.cells #[.bool a0_0, .int .u64 a0_1, .int .u64 a0_2, .int .i64 a0_3] 38 (0, 0))) ∧ Aside0 (wc.heap[gb801]? = some (.cells #[.bool a1_0, .int .u64 a1_1, .int .u64 a1_2, .int .i64 a1_3] 38 (0, 0))) ∧ Aside0 (wc.heap[gb802]? = some (.cells #[.bool a2_0, .int .u64 a2_1, .int .u64 a2_2] 26 (0, 0))) ∧ Aside0 (wc.heap[gb807]? = some (.cells #[.int .u64 t804, .int .u64 t805] 24 (0, 0))) ∧ Aside0 (wc.heap[gb811]? = some (.cells #[.int .u64 t808, .int .u64 t809] 24 (0, 0))) ∧ Aside0 (wc.heap[gb815]? = some (.cells #[.int .u64 t812, .int .u64 t813] 24 (0, 0))) ∧ Aside0 (wc.heap[gb819]? = some (.cells #[.int .u64 t816, .int .u64 t817] 24 (0, 0))) ∧ Aside0 (Below w.heap.size w wc))
  case first =>
   have H := HC10.out
   clear HC10
   by_cases c56 : (!(t804 == t808) || (!(t805 == t809))) = true
   ·
    rw [if_pos c56] at H
    have c56b0 : (!(t804 == t808) || (!(t805 == t809))) = true := c56
    clear c56
    (first | rw [c56b0] | (simp only [i64_w, i32_w]; rw [c56b0]) | skip)
    have H' := Aside0.mk H
    clear H
    have hnb57 := NB807_800.out
    have hnc57 := NB800_807.out
    have hnb58 := NB807_801.out
    have hnc58 := NB801_807.out
    have hnb59 := NB807_802.out
    have hnc59 := NB802_807.out
    have hnb60 := NB807_811.out
    have hnc60 := NB811_807.out
    have hnb61 := NB807_815.out
    have hnc61 := NB815_807.out
    have hnb62 := NB807_819.out
    have hnc62 := NB819_807.out
    obtain ⟨hcz63_0, hcz63_1, hfz63_0, hfz63_1⟩ := c2_ BK807
    have hnb64 := NB811_800.out
    have hnc64 := NB800_811.out
    have hnb65 := NB811_801.out
    have hnc65 := NB801_811.out
    have hnb66 := NB811_802.out
    have hnc66 := NB802_811.out
    have hnb67 := NB811_815.out
    have hnc67 := NB815_811.out
    have hnb68 := NB811_819.out
    have hnc68 := NB819_811.out
    obtain ⟨hcz69_0, hcz69_1, hfz69_0, hfz69_1⟩ := c2_ BK811
    go_wp2
    go_meet
    case rel => exact ⟨_, (true), (by first | rfl | (simp; done) | (simp [*]; done)), H', ⟨by first | omega | exact Nat.le_refl _⟩, ⟨by refine pw_ ?_; refine blk_far ?_ NB800_819.out _; refine pw_ ?_; refine blk_far ?_ NB800_819.out _; refine pw_ ?_; exact BK800.out⟩, ⟨by refine pw_ ?_; refine blk_far ?_ NB801_819.out _; refine pw_ ?_; refine blk_far ?_ NB801_819.out _; refine pw_ ?_; exact BK801.out⟩, ⟨by refine pw_ ?_; refine blk_far ?_ NB802_819.out _; refine pw_ ?_; refine blk_far ?_ NB802_819.out _; refine pw_ ?_; exact BK802.out⟩, ⟨by refine pw_ ?_; refine blk_far ?_ NB807_819.out _; refine pw_ ?_; refine blk_far ?_ NB807_819.out _; refine pw_ ?_; exact BK807.out⟩, ⟨by refine pw_ ?_; refine blk_far ?_ NB811_819.out _; refine pw_ ?_; refine blk_far ?_ NB811_819.out _; refine pw_ ?_; exact BK811.out⟩, ⟨by refine pw_ ?_; refine blk_far ?_ NB815_819.out _; refine pw_ ?_; refine blk_far ?_ NB815_819.out _; refine pw_ ?_; exact BK815.out⟩, ⟨by refine pw_ ?_; refine blk_put (cs := #[.int .u64 t816, .int .u64 0]) ?_ 1 _ rfl; refine pw_ ?_; refine blk_put (cs := #[.int .u64 0, .int .u64 0]) ?_ 0 _ rfl; refine pw_ ?_; exact BK819.out⟩, ⟨pb_ HB⟩⟩
   ·
    rw [if_neg c56] at H
    have c56b0 : (!(t804 == t808) || (!(t805 == t809))) = false := by simpa using c56
    clear c56
    (first | rw [c56b0] | (simp only [i64_w, i32_w]; rw [c56b0]) | skip)
    by_cases c70 : t806 = t810
    ·
     rw [if_pos c70] at H
     have c70b0 : (t806 == t810) = true := beq_iff_eq.mpr c70
     have c70b1 : (t806 != t810) = false := bne_eq_false_iff_eq.mpr c70
     clear c70
     by_cases c71 : (!(t812 == t816) || (!(t813 == t817))) = true
     ·
      rw [if_pos c71] at H
      have c71b0 : (!(t812 == t816) || (!(t813 == t817))) = true := c71
      clear c71
      have H' := Aside0.mk H
      clear H
      have hnb72 := NB807_800.out
      have hnc72 := NB800_807.out
      have hnb73 := NB807_801.out
      have hnc73 := NB801_807.out
      have hnb74 := NB807_802.out
      have hnc74 := NB802_807.out
      have hnb75 := NB807_811.out
      have hnc75 := NB811_807.out
      have hnb76 := NB807_815.out
      have hnc76 := NB815_807.out
      have hnb77 := NB807_819.out
      have hnc77 := NB819_807.out
      obtain ⟨hcz78_0, hcz78_1, hfz78_0, hfz78_1⟩ := c2_ BK807
      have hnb79 := NB811_800.out
      have hnc79 := NB800_811.out
      have hnb80 := NB811_801.out
      have hnc80 := NB801_811.out
      have hnb81 := NB811_802.out
      have hnc81 := NB802_811.out
      have hnb82 := NB811_815.out
      have hnc82 := NB815_811.out
      have hnb83 := NB811_819.out
      have hnc83 := NB819_811.out
      obtain ⟨hcz84_0, hcz84_1, hfz84_0, hfz84_1⟩ := c2_ BK811
      have hnb85 := NB815_800.out
      have hnc85 := NB800_815.out
      have hnb86 := NB815_801.out
      have hnc86 := NB801_815.out
      have hnb87 := NB815_802.out
      have hnc87 := NB802_815.out
      have hnb88 := NB815_819.out
      have hnc88 := NB819_815.out
      obtain ⟨hcz89_0, hcz89_1, hfz89_0, hfz89_1⟩ := c2_ BK815
      have hnb90 := NB819_800.out
      have hnc90 := NB800_819.out
      have hnb91 := NB819_801.out
      have hnc91 := NB801_819.out
      have hnb92 := NB819_802.out
      have hnc92 := NB802_819.out
      obtain ⟨hcz93_0, hcz93_1, hfz93_0, hfz93_1⟩ := c2_ BK819
      go_wp2
      go_meet
      case rel => exact ⟨_, (true), (by first | rfl | (simp; done) | (simp [*]; done)), H', ⟨by first | omega | exact Nat.le_refl _⟩, ⟨by refine pw_ ?_; refine blk_far ?_ NB800_819.out _; refine pw_ ?_; refine blk_far ?_ NB800_819.out _; refine pw_ ?_; exact BK800.out⟩, ⟨by refine pw_ ?_; refine blk_far ?_ NB801_819.out _; refine pw_ ?_; refine blk_far ?_ NB801_819.out _; refine pw_ ?_; exact BK801.out⟩, ⟨by refine pw_ ?_; refine blk_far ?_ NB802_819.out _; refine pw_ ?_; refine blk_far ?_ NB802_819.out _; refine pw_ ?_; exact BK802.out⟩, ⟨by refine pw_ ?_; refine blk_far ?_ NB807_819.out _; refine pw_ ?_; refine blk_far ?_ NB807_819.out _; refine pw_ ?_; exact BK807.out⟩, ⟨by refine pw_ ?_; refine blk_far ?_ NB811_819.out _; refine pw_ ?_; refine blk_far ?_ NB811_819.out _; refine pw_ ?_; exact BK811.out⟩, ⟨by refine pw_ ?_; refine blk_far ?_ NB815_819.out _; refine pw_ ?_; refine blk_far ?_ NB815_819.out _; refine pw_ ?_; exact BK815.out⟩, ⟨by refine pw_ ?_; refine blk_put (cs := #[.int .u64 t816, .int .u64 0]) ?_ 1 _ rfl; refine pw_ ?_; refine blk_put (cs := #[.int .u64 0, .int .u64 0]) ?_ 0 _ rfl; refine pw_ ?_; exact BK819.out⟩, ⟨pb_ HB⟩⟩
     ·
      rw [if_neg c71] at H
      have c71b0 : (!(t812 == t816) || (!(t813 == t817))) = false := by simpa using c71
      clear c71
      have H' := Aside0.mk H
      clear H
      have hnb94 := NB807_800.out
      have hnc94 := NB800_807.out
      have hnb95 := NB807_801.out
      have hnc95 := NB801_807.out
      have hnb96 := NB807_802.out
      have hnc96 := NB802_807.out
      have hnb97 := NB807_811.out
      have hnc97 := NB811_807.out
      have hnb98 := NB807_815.out
      have hnc98 := NB815_807.out
      have hnb99 := NB807_819.out
      have hnc99 := NB819_807.out
      obtain ⟨hcz100_0, hcz100_1, hfz100_0, hfz100_1⟩ := c2_ BK807
      have hnb101 := NB811_800.out
      have hnc101 := NB800_811.out
      have hnb102 := NB811_801.out
      have hnc102 := NB801_811.out
      have hnb103 := NB811_802.out
      have hnc103 := NB802_811.out
      have hnb104 := NB811_815.out
      have hnc104 := NB815_811.out
      have hnb105 := NB811_819.out
      have hnc105 := NB819_811.out
      obtain ⟨hcz106_0, hcz106_1, hfz106_0, hfz106_1⟩ := c2_ BK811
      have hnb107 := NB815_800.out
      have hnc107 := NB800_815.out
      have hnb108 := NB815_801.out
      have hnc108 := NB801_815.out
      have hnb109 := NB815_802.out
      have hnc109 := NB802_815.out
      have hnb110 := NB815_819.out
      have hnc110 := NB819_815.out
      obtain ⟨hcz111_0, hcz111_1, hfz111_0, hfz111_1⟩ := c2_ BK815
      have hnb112 := NB819_800.out
      have hnc112 := NB800_819.out
      have hnb113 := NB819_801.out
      have hnc113 := NB801_819.out
      have hnb114 := NB819_802.out
      have hnc114 := NB802_819.out
      obtain ⟨hcz115_0, hcz115_1, hfz115_0, hfz115_1⟩ := c2_ BK819
      go_wp2
      go_meet
      case rel => exact ⟨_, ((t814 != t818)), (by first | rfl | (simp; done) | (simp [*]; done)), H', ⟨by first | omega | exact Nat.le_refl _⟩, ⟨by refine pw_ ?_; refine blk_far ?_ NB800_819.out _; refine pw_ ?_; refine blk_far ?_ NB800_819.out _; refine pw_ ?_; exact BK800.out⟩, ⟨by refine pw_ ?_; refine blk_far ?_ NB801_819.out _; refine pw_ ?_; refine blk_far ?_ NB801_819.out _; refine pw_ ?_; exact BK801.out⟩, ⟨by refine pw_ ?_; refine blk_far ?_ NB802_819.out _; refine pw_ ?_; refine blk_far ?_ NB802_819.out _; refine pw_ ?_; exact BK802.out⟩, ⟨by refine pw_ ?_; refine blk_far ?_ NB807_819.out _; refine pw_ ?_; refine blk_far ?_ NB807_819.out _; refine pw_ ?_; exact BK807.out⟩, ⟨by refine pw_ ?_; refine blk_far ?_ NB811_819.out _; refine pw_ ?_; refine blk_far ?_ NB811_819.out _; refine pw_ ?_; exact BK811.out⟩, ⟨by refine pw_ ?_; refine blk_far ?_ NB815_819.out _; refine pw_ ?_; refine blk_far ?_ NB815_819.out _; refine pw_ ?_; exact BK815.out⟩, ⟨by refine pw_ ?_; refine blk_put (cs := #[.int .u64 t816, .int .u64 0]) ?_ 1 _ rfl; refine pw_ ?_; refine blk_put (cs := #[.int .u64 0, .int .u64 0]) ?_ 0 _ rfl; refine pw_ ?_; exact BK819.out⟩, ⟨pb_ HB⟩⟩
    ·
     rw [if_neg c70] at H
     have c70b0 : (t806 == t810) = false := beq_eq_false_iff_ne.mpr c70
     have c70b1 : (t806 != t810) = true := bne_iff_ne.mpr c70
     have H' := Aside0.mk H
     clear H
     have hnb116 := NB807_800.out
     have hnc116 := NB800_807.out
     have hnb117 := NB807_801.out
     have hnc117 := NB801_807.out
     have hnb118 := NB807_802.out
     have hnc118 := NB802_807.out
     have hnb119 := NB807_811.out
     have hnc119 := NB811_807.out
     have hnb120 := NB807_815.out
     have hnc120 := NB815_807.out
     have hnb121 := NB807_819.out
     have hnc121 := NB819_807.out
     obtain ⟨hcz122_0, hcz122_1, hfz122_0, hfz122_1⟩ := c2_ BK807
     have hnb123 := NB811_800.out
     have hnc123 := NB800_811.out
     have hnb124 := NB811_801.out
     have hnc124 := NB801_811.out
     have hnb125 := NB811_802.out
     have hnc125 := NB802_811.out
     have hnb126 := NB811_815.out
     have hnc126 := NB815_811.out
     have hnb127 := NB811_819.out
     have hnc127 := NB819_811.out
     obtain ⟨hcz128_0, hcz128_1, hfz128_0, hfz128_1⟩ := c2_ BK811
     go_wp2
     go_meet
     case rel => exact ⟨_, (true), (by first | rfl | (simp; done) | (simp [*]; done)), H', ⟨by first | omega | exact Nat.le_refl _⟩, ⟨by refine pw_ ?_; refine blk_far ?_ NB800_819.out _; refine pw_ ?_; refine blk_far ?_ NB800_819.out _; refine pw_ ?_; exact BK800.out⟩, ⟨by refine pw_ ?_; refine blk_far ?_ NB801_819.out _; refine pw_ ?_; refine blk_far ?_ NB801_819.out _; refine pw_ ?_; exact BK801.out⟩, ⟨by refine pw_ ?_; refine blk_far ?_ NB802_819.out _; refine pw_ ?_; refine blk_far ?_ NB802_819.out _; refine pw_ ?_; exact BK802.out⟩, ⟨by refine pw_ ?_; refine blk_far ?_ NB807_819.out _; refine pw_ ?_; refine blk_far ?_ NB807_819.out _; refine pw_ ?_; exact BK807.out⟩, ⟨by refine pw_ ?_; refine blk_far ?_ NB811_819.out _; refine pw_ ?_; refine blk_far ?_ NB811_819.out _; refine pw_ ?_; exact BK811.out⟩, ⟨by refine pw_ ?_; refine blk_far ?_ NB815_819.out _; refine pw_ ?_; refine blk_far ?_ NB815_819.out _; refine pw_ ?_; exact BK815.out⟩, ⟨by refine pw_ ?_; refine blk_put (cs := #[.int .u64 t816, .int .u64 0]) ?_ 1 _ rfl; refine pw_ ?_; refine blk_put (cs := #[.int .u64 0, .int .u64 0]) ?_ 0 _ rfl; refine pw_ ?_; exact BK819.out⟩, ⟨pb_ HB⟩⟩
  case rest =>
   clear HC10
   try clear c1
   try clear c2
   try clear p2
   try clear c3
   try clear c4
   try clear c5
   try clear c6
   try clear c7
   try clear c8
   try clear c9
   try clear c10
   try clear c11
   try clear c12
   try clear c15
   try clear c16
   try clear c18
   try clear c22
   try clear c23
   try clear c24
   try clear c30
   try clear c31
   try clear c32
   try clear c33
   try clear c39
   try clear c40
   try clear c41
   try clear c42
   try clear c43
   try clear c46
   try clear c49
   try clear c50
   try clear c51
   try clear c52
   try clear c53
   try clear c54
   try clear c56
   try clear c56b0
   try clear c57
   try clear c58
   try clear c59
   try clear c60
   try clear c61
   try clear c62
   try clear c64
   try clear c65
   try clear c66
   try clear c67
   try clear c68
   try clear c70
   try clear c70b0
   try clear c70b1
   try clear c71
   try clear c71b0
   try clear c72
   try clear c73
   try clear c74
   try clear c75
   try clear c76
   try clear c77
   try clear c79
   try clear c80
   try clear c81
   try clear c82
   try clear c83
   try clear c85
   try clear c86
   try clear c87
   try clear c88
   try clear c90
   try clear c91
   try clear c92
   try clear c94
   try clear c95
   try clear c96
   try clear c97
   try clear c98
   try clear c99
   try clear c101
   try clear c102
   try clear c103
   try clear c104
   try clear c105
   try clear c107
   try clear c108
   try clear c109
   try clear c110
   try clear c112
   try clear c113
   try clear c114
   try clear c116
   try clear c117
   try clear c118
   try clear c119
   try clear c120
   try clear c121
   try clear c123
   try clear c124
   try clear c125
   try clear c126
   try clear c127
   try clear hcz100_0
   try clear hcz100_1
   try clear hcz106_0
   try clear hcz106_1
   try clear hcz111_0
   try clear hcz111_1
   try clear hcz115_0
   try clear hcz115_1
   try clear hcz122_0
   try clear hcz122_1
   try clear hcz128_0
   try clear hcz128_1
   try clear hcz17_0
   try clear hcz17_1
   try clear hcz17_2
   try clear hcz17_3
   try clear hcz19_0
   try clear hcz19_1
   try clear hcz19_2
   try clear hcz19_3
   try clear hcz25_0
   try clear hcz25_1
   try clear hcz26_0
   try clear hcz26_1
   try clear hcz26_2
   try clear hcz26_3
   try clear hcz27_0
   try clear hcz27_1
   try clear hcz27_2
   try clear hcz27_3
   try clear hcz34_0
   try clear hcz34_1
   try clear hcz35_0
   try clear hcz35_1
   try clear hcz35_2
   try clear hcz35_3
   try clear hcz36_0
   try clear hcz36_1
   try clear hcz36_2
   try clear hcz44_0
   try clear hcz44_1
   try clear hcz45_0
   try clear hcz45_1
   try clear hcz45_2
   try clear hcz45_3
   try clear hcz46_0
   try clear hcz46_1
   try clear hcz46_2
   try clear hcz55_0
   try clear hcz55_1
   try clear hcz63_0
   try clear hcz63_1
   try clear hcz69_0
   try clear hcz69_1
   try clear hcz78_0
   try clear hcz78_1
   try clear hcz84_0
   try clear hcz84_1
   try clear hcz89_0
   try clear hcz89_1
   try clear hcz93_0
   try clear hcz93_1
   try clear hfz100_0
   try clear hfz100_1
   try clear hfz106_0
   try clear hfz106_1
   try clear hfz111_0
   try clear hfz111_1
   try clear hfz115_0
   try clear hfz115_1
   try clear hfz122_0
   try clear hfz122_1
   try clear hfz128_0
   try clear hfz128_1
   try clear hfz17_0
   try clear hfz17_1
   try clear hfz17_2
   try clear hfz17_3
   try clear hfz19_0
   try clear hfz19_1
   try clear hfz19_2
   try clear hfz19_3
   try clear hfz25_0
   try clear hfz25_1
   try clear hfz26_0
   try clear hfz26_1
   try clear hfz26_2
   try clear hfz26_3
   try clear hfz27_0
   try clear hfz27_1
   try clear hfz27_2
   try clear hfz27_3
   try clear hfz34_0
   try clear hfz34_1
   try clear hfz35_0
   try clear hfz35_1
   try clear hfz35_2
   try clear hfz35_3
   try clear hfz36_0
   try clear hfz36_1
   try clear hfz36_2
   try clear hfz44_0
   try clear hfz44_1
   try clear hfz45_0
   try clear hfz45_1
   try clear hfz45_2
   try clear hfz45_3
   try clear hfz46_0
   try clear hfz46_1
   try clear hfz46_2
   try clear hfz55_0
   try clear hfz55_1
   try clear hfz63_0
   try clear hfz63_1
   try clear hfz69_0
   try clear hfz69_1
   try clear hfz78_0
   try clear hfz78_1
   try clear hfz84_0
   try clear hfz84_1
   try clear hfz89_0
   try clear hfz89_1
   try clear hfz93_0
   try clear hfz93_1
   obtain ⟨kq, x62_9, rfl, HA, HJ9, BK800, BK801, BK802, BK807, BK811, BK815, BK819, HB⟩ := hcut
   cases kq with
   | zero => exact absurd HA.out (by simp [platbooklaw04_CarveNumbers.j0])
   | succ kj9 =>
    have H := HA.out
    clear HA
    simp only [platbooklaw04_CarveNumbers.j0] at H
    by_cases c129 : x62_9 = true
    ·
     subst c129
     rw [if_pos rfl] at H
     obtain rfl := Option.some.inj H
     exact absurd HRT.out (by decide)
    ·
     replace c129 := Bool.eq_false_iff.mpr c129
     subst c129
     have H1 : (if t806 = 0 then ((carve_Block.f a0_0 a0_1 a0_2 a0_3 a1_3 t804 t805).bind fun bt820 => (if ((!(bt820.1 == a1_0) || ((!(bt820.2.1 == a1_1) || (!(bt820.2.2.1 == a1_2))))) || (!(bt820.2.2.2.1 == a1_3))) = true then (platbooklaw04_CarveNumbers.j1 kj9 t814 true a0_0 a0_1 a0_2 a0_3 a2_0 a2_1 a2_2 t812 t813) else (platbooklaw04_CarveNumbers.j1 kj9 t814 (bt820.2.2.2.2 != 0) a0_0 a0_1 a0_2 a0_3 a2_0 a2_1 a2_2 t812 t813))) else (if t814 = 0 then ((carve_Host.f a0_0 a0_1 a0_2 a0_3 t812 t813).bind fun bt831 => (if (bt831.1 == a2_0 && ((bt831.2.1 == a2_1 && (bt831.2.2.1 == a2_2)))) = true then (some (bt831.2.2.2 == 0)) else (some false))) else (some true))) = some r := by rw [if_neg (show ¬ (false = true) by decide)] at H; exact H
     clear H
     have H := H1
     clear H1
     by_cases c130 : t806 = 0
     ·
      rw [if_pos c130] at H
      have c130b0 : (t806 == 0) = true := beq_iff_eq.mpr c130
      have c130b1 : (t806 != 0) = false := bne_eq_false_iff_eq.mpr c130
      clear c130
      replace H := Option.bind_eq_some_iff.mp H
      obtain ⟨⟨t820, t821, t822, t823, t824⟩, A1310, H⟩ := H
      replace H : (if ((!(t820 == a1_0) || ((!(t821 == a1_1) || (!(t822 == a1_2))))) || (!(t823 == a1_3))) = true then (platbooklaw04_CarveNumbers.j1 kj9 t814 true a0_0 a0_1 a0_2 a0_3 a2_0 a2_1 a2_2 t812 t813) else (platbooklaw04_CarveNumbers.j1 kj9 t814 (t824 != 0) a0_0 a0_1 a0_2 a0_3 a2_0 a2_1 a2_2 t812 t813)) = some r := H
      have A131 := Aside0.mk A1310
      clear A1310
      have HC132 := Aside0.mk H
      clear H
      have hnb133 := NB800_801.out
      have hnc133 := NB801_800.out
      have hnb134 := NB800_802.out
      have hnc134 := NB802_800.out
      have hnb135 := NB800_807.out
      have hnc135 := NB807_800.out
      have hnb136 := NB800_811.out
      have hnc136 := NB811_800.out
      have hnb137 := NB800_815.out
      have hnc137 := NB815_800.out
      have hnb138 := NB800_819.out
      have hnc138 := NB819_800.out
      obtain ⟨hcz139_0, hcz139_1, hcz139_2, hcz139_3, hfz139_0, hfz139_1, hfz139_2, hfz139_3⟩ := c4_ BK800
      have hnb140 := NB801_802.out
      have hnc140 := NB802_801.out
      have hnb141 := NB801_807.out
      have hnc141 := NB807_801.out
      have hnb142 := NB801_811.out
      have hnc142 := NB811_801.out
      have hnb143 := NB801_815.out
      have hnc143 := NB815_801.out
      have hnb144 := NB801_819.out
      have hnc144 := NB819_801.out
      obtain ⟨hcz145_0, hcz145_1, hcz145_2, hcz145_3, hfz145_0, hfz145_1, hfz145_2, hfz145_3⟩ := c4_ BK801
      have hnb146 := NB807_802.out
      have hnc146 := NB802_807.out
      have hnb147 := NB807_811.out
      have hnc147 := NB811_807.out
      have hnb148 := NB807_815.out
      have hnc148 := NB815_807.out
      have hnb149 := NB807_819.out
      have hnc149 := NB819_807.out
      obtain ⟨hcz150_0, hcz150_1, hfz150_0, hfz150_1⟩ := c2_ BK807
      go_upto_region 11 with (first | ((with_reducible refine gate_callee (f := 49) rfl ?_); refine gl_ (some 70) Tryz.func49 #[.agg #[.bool a0_0, .int .u64 a0_1, .int .u64 a0_2, .int .i64 a0_3], .int .i64 a1_3, .agg #[.int .u64 t804, .int .u64 t805]] ?_; (with_reducible refine (carve_Block.calls a0_0 a0_1 a0_2 a0_3 a1_3 t804 t805 t820 t821 t822 t823 t824 _ A131.out).mono ?_); rintro e w151 ⟨rfl, hb⟩; refine ⟨_, rfl, ?_⟩; replace BK800 := bb_ BK800 hb; replace BK801 := bb_ BK801 hb; replace BK802 := bb_ BK802 hb; replace BK807 := bb_ BK807 hb; replace BK811 := bb_ BK811 hb; replace BK815 := bb_ BK815 hb; replace BK819 := bb_ BK819 hb; replace HB := bs_ HB hb; (try clear hb); (try clear hb2); (try clear hk); (try clear hi)) | ((with_reducible refine gate_dst (N := 15) rfl ?_); refine bx_ 15 #[.bool false, .int .u64 0, .int .u64 0, .int .i64 0] 38 ?_; intro gb825 hg w152 hbox hb; have BK825 := Aside0.mk (hbox); have GW825 := gw_ HB hg; have GE825 := gw_ HB hg; have NB800_825 := nl_ BK800 hg; have NB825_800 := ng_ BK800 hg; have NB801_825 := nl_ BK801 hg; have NB825_801 := ng_ BK801 hg; have NB802_825 := nl_ BK802 hg; have NB825_802 := ng_ BK802 hg; have NB807_825 := nl_ BK807 hg; have NB825_807 := ng_ BK807 hg; have NB811_825 := nl_ BK811 hg; have NB825_811 := ng_ BK811 hg; have NB815_825 := nl_ BK815 hg; have NB825_815 := ng_ BK815 hg; have NB819_825 := nl_ BK819 hg; have NB825_819 := ng_ BK819 hg; replace BK800 := bb_ BK800 hb; replace BK801 := bb_ BK801 hb; replace BK802 := bb_ BK802 hb; replace BK807 := bb_ BK807 hb; replace BK811 := bb_ BK811 hb; replace BK815 := bb_ BK815 hb; replace BK819 := bb_ BK819 hb; replace HB := bs_ HB hb; clear hb hbox hg; have hnb153 := NB825_800.out; have hnc153 := NB800_825.out; have hnb154 := NB825_801.out; have hnc154 := NB801_825.out; have hnb155 := NB825_802.out; have hnc155 := NB802_825.out; have hnb156 := NB825_807.out; have hnc156 := NB807_825.out; have hnb157 := NB825_811.out; have hnc157 := NB811_825.out; have hnb158 := NB825_815.out; have hnc158 := NB815_825.out; have hnb159 := NB825_819.out; have hnc159 := NB819_825.out; obtain ⟨hcz160_0, hcz160_1, hcz160_2, hcz160_3, hfz160_0, hfz160_1, hfz160_2, hfz160_3⟩ := c4_ BK825))
      (try simp only [Act.put, List.setIfInBounds_toArray, List.set_cons_zero, List.set_cons_succ])
      go_cut [79] (fun v79 wc => ∃ (kq : Nat) (x79_131 : Bool), v79 = .bool x79_131 ∧ Aside0 (platbooklaw04_CarveNumbers.j1 kq t814 x79_131 a0_0 a0_1 a0_2 a0_3 a2_0 a2_1 a2_2 t812 t813 = some r) ∧ Aside0 (kq ≤ kj9) ∧ Aside0 (wc.heap[gb800]? = some (.cells #[.bool a0_0, .int .u64 a0_1, .int .u64 a0_2, .int .i64 a0_3] 38 (0, 0))) ∧ Aside0 (wc.heap[gb801]? = some (.cells #[.bool a1_0, .int .u64 a1_1, .int .u64 a1_2, .int .i64 a1_3] 38 (0, 0))) ∧ Aside0 (wc.heap[gb802]? = some (.cells #[.bool a2_0, .int .u64 a2_1, .int .u64 a2_2] 26 (0, 0))) ∧ Aside0 (wc.heap[gb807]? = some (.cells #[.int .u64 t804, .int .u64 t805] 24 (0, 0))) ∧ Aside0 (wc.heap[gb811]? = some (.cells #[.int .u64 t808, .int .u64 t809] 24 (0, 0))) ∧ Aside0 (wc.heap[gb815]? = some (.cells #[.int .u64 t812, .int .u64 t813] 24 (0, 0))) ∧ Aside0 (wc.heap[gb819]? = some (.cells #[.int .u64 t816, .int .u64 t817] 24 (0, 0))) ∧ Aside0 (wc.heap[gb825]? = some (.cells #[.bool t820, .int .u64 t821, .int .u64 t822, .int .i64 t823] 38 (0, 0))) ∧ Aside0 (Below w.heap.size w wc))
      case first =>
       have H := HC132.out
       clear HC132
       by_cases c161 : ((!(t820 == a1_0) || ((!(t821 == a1_1) || (!(t822 == a1_2))))) || (!(t823 == a1_3))) = true
       ·
        rw [if_pos c161] at H
        have c161b0 : ((!(t820 == a1_0) || ((!(t821 == a1_1) || (!(t822 == a1_2))))) || (!(t823 == a1_3))) = true := c161
        clear c161
        (first | rw [c161b0] | (simp only [i64_w, i32_w]; rw [c161b0]) | skip)
        have H' := Aside0.mk H
        clear H
        have hnb162 := NB825_800.out
        have hnc162 := NB800_825.out
        have hnb163 := NB825_801.out
        have hnc163 := NB801_825.out
        have hnb164 := NB825_802.out
        have hnc164 := NB802_825.out
        have hnb165 := NB825_807.out
        have hnc165 := NB807_825.out
        have hnb166 := NB825_811.out
        have hnc166 := NB811_825.out
        have hnb167 := NB825_815.out
        have hnc167 := NB815_825.out
        have hnb168 := NB825_819.out
        have hnc168 := NB819_825.out
        obtain ⟨hcz169_0, hcz169_1, hcz169_2, hcz169_3, hfz169_0, hfz169_1, hfz169_2, hfz169_3⟩ := c4_ BK825
        have hnb170 := NB801_800.out
        have hnc170 := NB800_801.out
        have hnb171 := NB801_802.out
        have hnc171 := NB802_801.out
        have hnb172 := NB801_807.out
        have hnc172 := NB807_801.out
        have hnb173 := NB801_811.out
        have hnc173 := NB811_801.out
        have hnb174 := NB801_815.out
        have hnc174 := NB815_801.out
        have hnb175 := NB801_819.out
        have hnc175 := NB819_801.out
        obtain ⟨hcz176_0, hcz176_1, hcz176_2, hcz176_3, hfz176_0, hfz176_1, hfz176_2, hfz176_3⟩ := c4_ BK801
        go_wp2
        go_meet
        case rel => exact ⟨_, (true), (by first | rfl | (simp; done) | (simp [*]; done)), H', ⟨by have := HJ9.out; first | omega | exact Nat.le_refl _⟩, ⟨by refine pw_ ?_; refine blk_far ?_ NB800_825.out _; refine pw_ ?_; refine blk_far ?_ NB800_825.out _; refine pw_ ?_; refine blk_far ?_ NB800_825.out _; refine pw_ ?_; refine blk_far ?_ NB800_825.out _; refine pw_ ?_; exact BK800.out⟩, ⟨by refine pw_ ?_; refine blk_far ?_ NB801_825.out _; refine pw_ ?_; refine blk_far ?_ NB801_825.out _; refine pw_ ?_; refine blk_far ?_ NB801_825.out _; refine pw_ ?_; refine blk_far ?_ NB801_825.out _; refine pw_ ?_; exact BK801.out⟩, ⟨by refine pw_ ?_; refine blk_far ?_ NB802_825.out _; refine pw_ ?_; refine blk_far ?_ NB802_825.out _; refine pw_ ?_; refine blk_far ?_ NB802_825.out _; refine pw_ ?_; refine blk_far ?_ NB802_825.out _; refine pw_ ?_; exact BK802.out⟩, ⟨by refine pw_ ?_; refine blk_far ?_ NB807_825.out _; refine pw_ ?_; refine blk_far ?_ NB807_825.out _; refine pw_ ?_; refine blk_far ?_ NB807_825.out _; refine pw_ ?_; refine blk_far ?_ NB807_825.out _; refine pw_ ?_; exact BK807.out⟩, ⟨by refine pw_ ?_; refine blk_far ?_ NB811_825.out _; refine pw_ ?_; refine blk_far ?_ NB811_825.out _; refine pw_ ?_; refine blk_far ?_ NB811_825.out _; refine pw_ ?_; refine blk_far ?_ NB811_825.out _; refine pw_ ?_; exact BK811.out⟩, ⟨by refine pw_ ?_; refine blk_far ?_ NB815_825.out _; refine pw_ ?_; refine blk_far ?_ NB815_825.out _; refine pw_ ?_; refine blk_far ?_ NB815_825.out _; refine pw_ ?_; refine blk_far ?_ NB815_825.out _; refine pw_ ?_; exact BK815.out⟩, ⟨by refine pw_ ?_; refine blk_far ?_ NB819_825.out _; refine pw_ ?_; refine blk_far ?_ NB819_825.out _; refine pw_ ?_; refine blk_far ?_ NB819_825.out _; refine pw_ ?_; refine blk_far ?_ NB819_825.out _; refine pw_ ?_; exact BK819.out⟩, ⟨by refine pw_ ?_; refine blk_put (cs := #[.bool t820, .int .u64 t821, .int .u64 t822, .int .i64 0]) ?_ 3 _ rfl; refine pw_ ?_; refine blk_put (cs := #[.bool t820, .int .u64 t821, .int .u64 0, .int .i64 0]) ?_ 2 _ rfl; refine pw_ ?_; refine blk_put (cs := #[.bool t820, .int .u64 0, .int .u64 0, .int .i64 0]) ?_ 1 _ rfl; refine pw_ ?_; refine blk_put (cs := #[.bool false, .int .u64 0, .int .u64 0, .int .i64 0]) ?_ 0 _ rfl; refine pw_ ?_; exact BK825.out⟩, ⟨pb_ HB⟩⟩
       ·
        rw [if_neg c161] at H
        have c161b0 : ((!(t820 == a1_0) || ((!(t821 == a1_1) || (!(t822 == a1_2))))) || (!(t823 == a1_3))) = false := by simpa using c161
        clear c161
        (first | rw [c161b0] | (simp only [i64_w, i32_w]; rw [c161b0]) | skip)
        have H' := Aside0.mk H
        clear H
        have hnb177 := NB825_800.out
        have hnc177 := NB800_825.out
        have hnb178 := NB825_801.out
        have hnc178 := NB801_825.out
        have hnb179 := NB825_802.out
        have hnc179 := NB802_825.out
        have hnb180 := NB825_807.out
        have hnc180 := NB807_825.out
        have hnb181 := NB825_811.out
        have hnc181 := NB811_825.out
        have hnb182 := NB825_815.out
        have hnc182 := NB815_825.out
        have hnb183 := NB825_819.out
        have hnc183 := NB819_825.out
        obtain ⟨hcz184_0, hcz184_1, hcz184_2, hcz184_3, hfz184_0, hfz184_1, hfz184_2, hfz184_3⟩ := c4_ BK825
        have hnb185 := NB801_800.out
        have hnc185 := NB800_801.out
        have hnb186 := NB801_802.out
        have hnc186 := NB802_801.out
        have hnb187 := NB801_807.out
        have hnc187 := NB807_801.out
        have hnb188 := NB801_811.out
        have hnc188 := NB811_801.out
        have hnb189 := NB801_815.out
        have hnc189 := NB815_801.out
        have hnb190 := NB801_819.out
        have hnc190 := NB819_801.out
        obtain ⟨hcz191_0, hcz191_1, hcz191_2, hcz191_3, hfz191_0, hfz191_1, hfz191_2, hfz191_3⟩ := c4_ BK801
        go_wp2
        go_meet
        case rel => exact ⟨_, ((t824 != 0)), (by first | rfl | (simp; done) | (simp [*]; done)), H', ⟨by have := HJ9.out; first | omega | exact Nat.le_refl _⟩, ⟨by refine pw_ ?_; refine blk_far ?_ NB800_825.out _; refine pw_ ?_; refine blk_far ?_ NB800_825.out _; refine pw_ ?_; refine blk_far ?_ NB800_825.out _; refine pw_ ?_; refine blk_far ?_ NB800_825.out _; refine pw_ ?_; exact BK800.out⟩, ⟨by refine pw_ ?_; refine blk_far ?_ NB801_825.out _; refine pw_ ?_; refine blk_far ?_ NB801_825.out _; refine pw_ ?_; refine blk_far ?_ NB801_825.out _; refine pw_ ?_; refine blk_far ?_ NB801_825.out _; refine pw_ ?_; exact BK801.out⟩, ⟨by refine pw_ ?_; refine blk_far ?_ NB802_825.out _; refine pw_ ?_; refine blk_far ?_ NB802_825.out _; refine pw_ ?_; refine blk_far ?_ NB802_825.out _; refine pw_ ?_; refine blk_far ?_ NB802_825.out _; refine pw_ ?_; exact BK802.out⟩, ⟨by refine pw_ ?_; refine blk_far ?_ NB807_825.out _; refine pw_ ?_; refine blk_far ?_ NB807_825.out _; refine pw_ ?_; refine blk_far ?_ NB807_825.out _; refine pw_ ?_; refine blk_far ?_ NB807_825.out _; refine pw_ ?_; exact BK807.out⟩, ⟨by refine pw_ ?_; refine blk_far ?_ NB811_825.out _; refine pw_ ?_; refine blk_far ?_ NB811_825.out _; refine pw_ ?_; refine blk_far ?_ NB811_825.out _; refine pw_ ?_; refine blk_far ?_ NB811_825.out _; refine pw_ ?_; exact BK811.out⟩, ⟨by refine pw_ ?_; refine blk_far ?_ NB815_825.out _; refine pw_ ?_; refine blk_far ?_ NB815_825.out _; refine pw_ ?_; refine blk_far ?_ NB815_825.out _; refine pw_ ?_; refine blk_far ?_ NB815_825.out _; refine pw_ ?_; exact BK815.out⟩, ⟨by refine pw_ ?_; refine blk_far ?_ NB819_825.out _; refine pw_ ?_; refine blk_far ?_ NB819_825.out _; refine pw_ ?_; refine blk_far ?_ NB819_825.out _; refine pw_ ?_; refine blk_far ?_ NB819_825.out _; refine pw_ ?_; exact BK819.out⟩, ⟨by refine pw_ ?_; refine blk_put (cs := #[.bool t820, .int .u64 t821, .int .u64 t822, .int .i64 0]) ?_ 3 _ rfl; refine pw_ ?_; refine blk_put (cs := #[.bool t820, .int .u64 t821, .int .u64 0, .int .i64 0]) ?_ 2 _ rfl; refine pw_ ?_; refine blk_put (cs := #[.bool t820, .int .u64 0, .int .u64 0, .int .i64 0]) ?_ 1 _ rfl; refine pw_ ?_; refine blk_put (cs := #[.bool false, .int .u64 0, .int .u64 0, .int .i64 0]) ?_ 0 _ rfl; refine pw_ ?_; exact BK825.out⟩, ⟨pb_ HB⟩⟩
      case rest =>
       clear HC132
       try clear c1
       try clear c2
       try clear p2
       try clear c3
       try clear c4
       try clear c5
       try clear c6
       try clear c7
       try clear c8
       try clear c9
       try clear c10
       try clear c11
       try clear c12
       try clear c13
       try clear c14
       try clear c15
       try clear c16
       try clear c17
       try clear c18
       try clear c19
       try clear c22
       try clear c23
       try clear c24
       try clear c30
       try clear c31
       try clear c32
       try clear c33
       try clear c39
       try clear c40
       try clear c41
       try clear c42
       try clear c43
       try clear c46
       try clear c49
       try clear c50
       try clear c51
       try clear c52
       try clear c53
       try clear c54
       try clear c56
       try clear c56b0
       try clear c57
       try clear c58
       try clear c59
       try clear c60
       try clear c61
       try clear c62
       try clear c64
       try clear c65
       try clear c66
       try clear c67
       try clear c68
       try clear c70
       try clear c70b0
       try clear c70b1
       try clear c71
       try clear c71b0
       try clear c72
       try clear c73
       try clear c74
       try clear c75
       try clear c76
       try clear c77
       try clear c79
       try clear c80
       try clear c81
       try clear c82
       try clear c83
       try clear c85
       try clear c86
       try clear c87
       try clear c88
       try clear c90
       try clear c91
       try clear c92
       try clear c94
       try clear c95
       try clear c96
       try clear c97
       try clear c98
       try clear c99
       try clear c101
       try clear c102
       try clear c103
       try clear c104
       try clear c105
       try clear c107
       try clear c108
       try clear c109
       try clear c110
       try clear c112
       try clear c113
       try clear c114
       try clear c116
       try clear c117
       try clear c118
       try clear c119
       try clear c120
       try clear c121
       try clear c123
       try clear c124
       try clear c125
       try clear c126
       try clear c127
       try clear c129
       try clear c130
       try clear c130b0
       try clear c130b1
       try clear c133
       try clear c134
       try clear c135
       try clear c136
       try clear c137
       try clear c138
       try clear c140
       try clear c141
       try clear c142
       try clear c143
       try clear c144
       try clear c146
       try clear c147
       try clear c148
       try clear c149
       try clear c153
       try clear c154
       try clear c155
       try clear c156
       try clear c157
       try clear c158
       try clear c159
       try clear c161
       try clear c161b0
       try clear c162
       try clear c163
       try clear c164
       try clear c165
       try clear c166
       try clear c167
       try clear c168
       try clear c170
       try clear c171
       try clear c172
       try clear c173
       try clear c174
       try clear c175
       try clear c177
       try clear c178
       try clear c179
       try clear c180
       try clear c181
       try clear c182
       try clear c183
       try clear c185
       try clear c186
       try clear c187
       try clear c188
       try clear c189
       try clear c190
       try clear hcz100_0
       try clear hcz100_1
       try clear hcz106_0
       try clear hcz106_1
       try clear hcz111_0
       try clear hcz111_1
       try clear hcz115_0
       try clear hcz115_1
       try clear hcz122_0
       try clear hcz122_1
       try clear hcz128_0
       try clear hcz128_1
       try clear hcz139_0
       try clear hcz139_1
       try clear hcz139_2
       try clear hcz139_3
       try clear hcz145_0
       try clear hcz145_1
       try clear hcz145_2
       try clear hcz145_3
       try clear hcz150_0
       try clear hcz150_1
       try clear hcz160_0
       try clear hcz160_1
       try clear hcz160_2
       try clear hcz160_3
       try clear hcz169_0
       try clear hcz169_1
       try clear hcz169_2
       try clear hcz169_3
       try clear hcz176_0
       try clear hcz176_1
       try clear hcz176_2
       try clear hcz176_3
       try clear hcz17_0
       try clear hcz17_1
       try clear hcz17_2
       try clear hcz17_3
       try clear hcz184_0
       try clear hcz184_1
       try clear hcz184_2
       try clear hcz184_3
       try clear hcz191_0
       try clear hcz191_1
       try clear hcz191_2
       try clear hcz191_3
       try clear hcz19_0
       try clear hcz19_1
       try clear hcz19_2
       try clear hcz19_3
       try clear hcz25_0
       try clear hcz25_1
       try clear hcz26_0
       try clear hcz26_1
       try clear hcz26_2
       try clear hcz26_3
       try clear hcz27_0
       try clear hcz27_1
       try clear hcz27_2
       try clear hcz27_3
       try clear hcz34_0
       try clear hcz34_1
       try clear hcz35_0
       try clear hcz35_1
       try clear hcz35_2
       try clear hcz35_3
       try clear hcz36_0
       try clear hcz36_1
       try clear hcz36_2
       try clear hcz44_0
       try clear hcz44_1
       try clear hcz45_0
       try clear hcz45_1
       try clear hcz45_2
       try clear hcz45_3
       try clear hcz46_0
       try clear hcz46_1
       try clear hcz46_2
       try clear hcz55_0
       try clear hcz55_1
       try clear hcz63_0
       try clear hcz63_1
       try clear hcz69_0
       try clear hcz69_1
       try clear hcz78_0
       try clear hcz78_1
       try clear hcz84_0
       try clear hcz84_1
       try clear hcz89_0
       try clear hcz89_1
       try clear hcz93_0
       try clear hcz93_1
       try clear hfz100_0
       try clear hfz100_1
       try clear hfz106_0
       try clear hfz106_1
       try clear hfz111_0
       try clear hfz111_1
       try clear hfz115_0
       try clear hfz115_1
       try clear hfz122_0
       try clear hfz122_1
       try clear hfz128_0
       try clear hfz128_1
       try clear hfz139_0
       try clear hfz139_1
       try clear hfz139_2
       try clear hfz139_3
       try clear hfz145_0
       try clear hfz145_1
       try clear hfz145_2
       try clear hfz145_3
       try clear hfz150_0
       try clear hfz150_1
       try clear hfz160_0
       try clear hfz160_1
       try clear hfz160_2
       try clear hfz160_3
       try clear hfz169_0
       try clear hfz169_1
       try clear hfz169_2
       try clear hfz169_3
       try clear hfz176_0
       try clear hfz176_1
       try clear hfz176_2
       try clear hfz176_3
       try clear hfz17_0
       try clear hfz17_1
       try clear hfz17_2
       try clear hfz17_3
       try clear hfz184_0
       try clear hfz184_1
       try clear hfz184_2
       try clear hfz184_3
       try clear hfz191_0
       try clear hfz191_1
       try clear hfz191_2
       try clear hfz191_3
       try clear hfz19_0
       try clear hfz19_1
       try clear hfz19_2
       try clear hfz19_3
       try clear hfz25_0
       try clear hfz25_1
       try clear hfz26_0
       try clear hfz26_1
       try clear hfz26_2
       try clear hfz26_3
       try clear hfz27_0
       try clear hfz27_1
       try clear hfz27_2
       try clear hfz27_3
       try clear hfz34_0
       try clear hfz34_1
       try clear hfz35_0
       try clear hfz35_1
       try clear hfz35_2
       try clear hfz35_3
       try clear hfz36_0
       try clear hfz36_1
       try clear hfz36_2
       try clear hfz44_0
       try clear hfz44_1
       try clear hfz45_0
       try clear hfz45_1
       try clear hfz45_2
       try clear hfz45_3
       try clear hfz46_0
       try clear hfz46_1
       try clear hfz46_2
       try clear hfz55_0
       try clear hfz55_1
       try clear hfz63_0
       try clear hfz63_1
       try clear hfz69_0
       try clear hfz69_1
       try clear hfz78_0
       try clear hfz78_1
       try clear hfz84_0
       try clear hfz84_1
       try clear hfz89_0
       try clear hfz89_1
       try clear hfz93_0
       try clear hfz93_1
       try clear p2
       obtain ⟨kq, x79_131, rfl, HA, HJ131, BK800, BK801, BK802, BK807, BK811, BK815, BK819, BK825, HB⟩ := hcut
       cases kq with
       | zero => exact absurd HA.out (by simp [platbooklaw04_CarveNumbers.j1])
       | succ kj131 =>
        have H := HA.out
        clear HA
        simp only [platbooklaw04_CarveNumbers.j1] at H
        by_cases c192 : x79_131 = true
        ·
         subst c192
         rw [if_pos rfl] at H
         obtain rfl := Option.some.inj H
         exact absurd HRT.out (by decide)
        ·
         replace c192 := Bool.eq_false_iff.mpr c192
         subst c192
         have H1 : (if t814 = 0 then ((carve_Host.f a0_0 a0_1 a0_2 a0_3 t812 t813).bind fun bt826 => (if (bt826.1 == a2_0 && ((bt826.2.1 == a2_1 && (bt826.2.2.1 == a2_2)))) = true then (some (bt826.2.2.2 == 0)) else (some false))) else (some true)) = some r := by rw [if_neg (show ¬ (false = true) by decide)] at H; exact H
         clear H
         have H := H1
         clear H1
         by_cases c193 : t814 = 0
         ·
          rw [if_pos c193] at H
          have c193b0 : (t814 == 0) = true := beq_iff_eq.mpr c193
          have c193b1 : (t814 != 0) = false := bne_eq_false_iff_eq.mpr c193
          clear c193
          replace H := Option.bind_eq_some_iff.mp H
          obtain ⟨⟨t826, t827, t828, t829⟩, A1940, H⟩ := H
          replace H : (if (t826 == a2_0 && ((t827 == a2_1 && (t828 == a2_2)))) = true then (some (t829 == 0)) else (some false)) = some r := H
          have A194 := Aside0.mk A1940
          clear A1940
          by_cases c195 : (t826 == a2_0 && ((t827 == a2_1 && (t828 == a2_2)))) = true
          ·
           rw [if_pos c195] at H
           have c195b0 : (t826 == a2_0 && ((t827 == a2_1 && (t828 == a2_2)))) = true := c195
           (try (have c195b1 : decide (t826 = a2_0 && ((t827 == a2_1 && (t828 == a2_2)))) = true := by simpa using c195))
           (try (have c195b2 : (t826 == a2_0 && ((t827 == a2_1 && (t828 == a2_2)))) = true := by simpa using c195))
           clear c195
           obtain rfl := Option.some.inj H
           have hnb196 := NB800_801.out
           have hnc196 := NB801_800.out
           have hnb197 := NB800_802.out
           have hnc197 := NB802_800.out
           have hnb198 := NB800_807.out
           have hnc198 := NB807_800.out
           have hnb199 := NB800_811.out
           have hnc199 := NB811_800.out
           have hnb200 := NB800_815.out
           have hnc200 := NB815_800.out
           have hnb201 := NB800_819.out
           have hnc201 := NB819_800.out
           have hnb202 := NB800_825.out
           have hnc202 := NB825_800.out
           obtain ⟨hcz203_0, hcz203_1, hcz203_2, hcz203_3, hfz203_0, hfz203_1, hfz203_2, hfz203_3⟩ := c4_ BK800
           have hnb204 := NB815_801.out
           have hnc204 := NB801_815.out
           have hnb205 := NB815_802.out
           have hnc205 := NB802_815.out
           have hnb206 := NB815_807.out
           have hnc206 := NB807_815.out
           have hnb207 := NB815_811.out
           have hnc207 := NB811_815.out
           have hnb208 := NB815_819.out
           have hnc208 := NB819_815.out
           have hnb209 := NB815_825.out
           have hnc209 := NB825_815.out
           obtain ⟨hcz210_0, hcz210_1, hfz210_0, hfz210_1⟩ := c2_ BK815
           go_wp2_with (first | ((with_reducible refine gate_callee (f := 52) rfl ?_); refine gl_ (some 85) Tryz.func52 #[.agg #[.bool a0_0, .int .u64 a0_1, .int .u64 a0_2, .int .i64 a0_3], .agg #[.int .u64 t812, .int .u64 t813]] ?_; (with_reducible refine (carve_Host.calls a0_0 a0_1 a0_2 a0_3 t812 t813 t826 t827 t828 t829 _ A194.out).mono ?_); rintro e w211 ⟨rfl, hb⟩; refine ⟨_, rfl, ?_⟩; replace BK800 := bb_ BK800 hb; replace BK801 := bb_ BK801 hb; replace BK802 := bb_ BK802 hb; replace BK807 := bb_ BK807 hb; replace BK811 := bb_ BK811 hb; replace BK815 := bb_ BK815 hb; replace BK819 := bb_ BK819 hb; replace BK825 := bb_ BK825 hb; replace HB := bs_ HB hb; (try clear hb); (try clear hb2); (try clear hk); (try clear hi)) | ((with_reducible refine gate_dst (N := 17) rfl ?_); refine bx_ 17 #[.bool false, .int .u64 0, .int .u64 0] 26 ?_; intro gb830 hg w212 hbox hb; have BK830 := Aside0.mk (hbox); have GW830 := gw_ HB hg; have GE830 := gw_ HB hg; have NB800_830 := nl_ BK800 hg; have NB830_800 := ng_ BK800 hg; have NB801_830 := nl_ BK801 hg; have NB830_801 := ng_ BK801 hg; have NB802_830 := nl_ BK802 hg; have NB830_802 := ng_ BK802 hg; have NB807_830 := nl_ BK807 hg; have NB830_807 := ng_ BK807 hg; have NB811_830 := nl_ BK811 hg; have NB830_811 := ng_ BK811 hg; have NB815_830 := nl_ BK815 hg; have NB830_815 := ng_ BK815 hg; have NB819_830 := nl_ BK819 hg; have NB830_819 := ng_ BK819 hg; have NB825_830 := nl_ BK825 hg; have NB830_825 := ng_ BK825 hg; replace BK800 := bb_ BK800 hb; replace BK801 := bb_ BK801 hb; replace BK802 := bb_ BK802 hb; replace BK807 := bb_ BK807 hb; replace BK811 := bb_ BK811 hb; replace BK815 := bb_ BK815 hb; replace BK819 := bb_ BK819 hb; replace BK825 := bb_ BK825 hb; replace HB := bs_ HB hb; clear hb hbox hg; have hnb213 := NB830_800.out; have hnc213 := NB800_830.out; have hnb214 := NB830_801.out; have hnc214 := NB801_830.out; have hnb215 := NB830_802.out; have hnc215 := NB802_830.out; have hnb216 := NB830_807.out; have hnc216 := NB807_830.out; have hnb217 := NB830_811.out; have hnc217 := NB811_830.out; have hnb218 := NB830_815.out; have hnc218 := NB815_830.out; have hnb219 := NB830_819.out; have hnc219 := NB819_830.out; have hnb220 := NB830_825.out; have hnc220 := NB825_830.out; obtain ⟨hcz221_0, hcz221_1, hcz221_2, hfz221_0, hfz221_1, hfz221_2⟩ := c3_ BK830; have hnb222 := NB802_801.out; have hnc222 := NB801_802.out; have hnb223 := NB802_807.out; have hnc223 := NB807_802.out; have hnb224 := NB802_811.out; have hnc224 := NB811_802.out; have hnb225 := NB802_819.out; have hnc225 := NB819_802.out; have hnb226 := NB802_825.out; have hnc226 := NB825_802.out; obtain ⟨hcz227_0, hcz227_1, hcz227_2, hfz227_0, hfz227_1, hfz227_2⟩ := c3_ BK802))
           go_ret
           exact ⟨by first | rfl | (simp [errW_none, errW_some] <;> rfl) | (simp [*, errW_none, errW_some] <;> rfl), pb_ HB⟩
          ·
           rw [if_neg c195] at H
           have c195b0 : (t826 == a2_0 && ((t827 == a2_1 && (t828 == a2_2)))) = false := by simpa using c195
           (try (have c195b1 : decide (t826 = a2_0 && ((t827 == a2_1 && (t828 == a2_2)))) = false := by simpa using c195))
           (try (have c195b2 : (t826 == a2_0 && ((t827 == a2_1 && (t828 == a2_2)))) = false := by simpa using c195))
           (try (have c195b3 : ¬ (t826 = a2_0 && ((t827 == a2_1 && (t828 == a2_2)))) := by simpa using c195))
           clear c195
           obtain rfl := Option.some.inj H
           exact absurd HRT.out (by decide)
         ·
          rw [if_neg c193] at H
          have c193b0 : (t814 == 0) = false := beq_eq_false_iff_ne.mpr c193
          have c193b1 : (t814 != 0) = true := bne_iff_ne.mpr c193
          obtain rfl := Option.some.inj H
          go_wp2
          go_ret
          exact ⟨by first | rfl | (simp [errW_none, errW_some] <;> rfl) | (simp [*, errW_none, errW_some] <;> rfl), pb_ HB⟩
     ·
      rw [if_neg c130] at H
      have c130b0 : (t806 == 0) = false := beq_eq_false_iff_ne.mpr c130
      have c130b1 : (t806 != 0) = true := bne_iff_ne.mpr c130
      by_cases c228 : t814 = 0
      ·
       rw [if_pos c228] at H
       have c228b0 : (t814 == 0) = true := beq_iff_eq.mpr c228
       have c228b1 : (t814 != 0) = false := bne_eq_false_iff_eq.mpr c228
       clear c228
       replace H := Option.bind_eq_some_iff.mp H
       obtain ⟨⟨t831, t832, t833, t834⟩, A2290, H⟩ := H
       replace H : (if (t831 == a2_0 && ((t832 == a2_1 && (t833 == a2_2)))) = true then (some (t834 == 0)) else (some false)) = some r := H
       have A229 := Aside0.mk A2290
       clear A2290
       by_cases c230 : (t831 == a2_0 && ((t832 == a2_1 && (t833 == a2_2)))) = true
       ·
        rw [if_pos c230] at H
        have c230b0 : (t831 == a2_0 && ((t832 == a2_1 && (t833 == a2_2)))) = true := c230
        (try (have c230b1 : decide (t831 = a2_0 && ((t832 == a2_1 && (t833 == a2_2)))) = true := by simpa using c230))
        (try (have c230b2 : (t831 == a2_0 && ((t832 == a2_1 && (t833 == a2_2)))) = true := by simpa using c230))
        clear c230
        obtain rfl := Option.some.inj H
        have hnb231 := NB800_801.out
        have hnc231 := NB801_800.out
        have hnb232 := NB800_802.out
        have hnc232 := NB802_800.out
        have hnb233 := NB800_807.out
        have hnc233 := NB807_800.out
        have hnb234 := NB800_811.out
        have hnc234 := NB811_800.out
        have hnb235 := NB800_815.out
        have hnc235 := NB815_800.out
        have hnb236 := NB800_819.out
        have hnc236 := NB819_800.out
        obtain ⟨hcz237_0, hcz237_1, hcz237_2, hcz237_3, hfz237_0, hfz237_1, hfz237_2, hfz237_3⟩ := c4_ BK800
        have hnb238 := NB815_801.out
        have hnc238 := NB801_815.out
        have hnb239 := NB815_802.out
        have hnc239 := NB802_815.out
        have hnb240 := NB815_807.out
        have hnc240 := NB807_815.out
        have hnb241 := NB815_811.out
        have hnc241 := NB811_815.out
        have hnb242 := NB815_819.out
        have hnc242 := NB819_815.out
        obtain ⟨hcz243_0, hcz243_1, hfz243_0, hfz243_1⟩ := c2_ BK815
        go_wp2_with (first | ((with_reducible refine gate_callee (f := 52) rfl ?_); refine gl_ (some 85) Tryz.func52 #[.agg #[.bool a0_0, .int .u64 a0_1, .int .u64 a0_2, .int .i64 a0_3], .agg #[.int .u64 t812, .int .u64 t813]] ?_; (with_reducible refine (carve_Host.calls a0_0 a0_1 a0_2 a0_3 t812 t813 t831 t832 t833 t834 _ A229.out).mono ?_); rintro e w244 ⟨rfl, hb⟩; refine ⟨_, rfl, ?_⟩; replace BK800 := bb_ BK800 hb; replace BK801 := bb_ BK801 hb; replace BK802 := bb_ BK802 hb; replace BK807 := bb_ BK807 hb; replace BK811 := bb_ BK811 hb; replace BK815 := bb_ BK815 hb; replace BK819 := bb_ BK819 hb; replace HB := bs_ HB hb; (try clear hb); (try clear hb2); (try clear hk); (try clear hi)) | ((with_reducible refine gate_dst (N := 17) rfl ?_); refine bx_ 17 #[.bool false, .int .u64 0, .int .u64 0] 26 ?_; intro gb835 hg w245 hbox hb; have BK835 := Aside0.mk (hbox); have GW835 := gw_ HB hg; have GE835 := gw_ HB hg; have NB800_835 := nl_ BK800 hg; have NB835_800 := ng_ BK800 hg; have NB801_835 := nl_ BK801 hg; have NB835_801 := ng_ BK801 hg; have NB802_835 := nl_ BK802 hg; have NB835_802 := ng_ BK802 hg; have NB807_835 := nl_ BK807 hg; have NB835_807 := ng_ BK807 hg; have NB811_835 := nl_ BK811 hg; have NB835_811 := ng_ BK811 hg; have NB815_835 := nl_ BK815 hg; have NB835_815 := ng_ BK815 hg; have NB819_835 := nl_ BK819 hg; have NB835_819 := ng_ BK819 hg; replace BK800 := bb_ BK800 hb; replace BK801 := bb_ BK801 hb; replace BK802 := bb_ BK802 hb; replace BK807 := bb_ BK807 hb; replace BK811 := bb_ BK811 hb; replace BK815 := bb_ BK815 hb; replace BK819 := bb_ BK819 hb; replace HB := bs_ HB hb; clear hb hbox hg; have hnb246 := NB835_800.out; have hnc246 := NB800_835.out; have hnb247 := NB835_801.out; have hnc247 := NB801_835.out; have hnb248 := NB835_802.out; have hnc248 := NB802_835.out; have hnb249 := NB835_807.out; have hnc249 := NB807_835.out; have hnb250 := NB835_811.out; have hnc250 := NB811_835.out; have hnb251 := NB835_815.out; have hnc251 := NB815_835.out; have hnb252 := NB835_819.out; have hnc252 := NB819_835.out; obtain ⟨hcz253_0, hcz253_1, hcz253_2, hfz253_0, hfz253_1, hfz253_2⟩ := c3_ BK835; have hnb254 := NB802_801.out; have hnc254 := NB801_802.out; have hnb255 := NB802_807.out; have hnc255 := NB807_802.out; have hnb256 := NB802_811.out; have hnc256 := NB811_802.out; have hnb257 := NB802_819.out; have hnc257 := NB819_802.out; obtain ⟨hcz258_0, hcz258_1, hcz258_2, hfz258_0, hfz258_1, hfz258_2⟩ := c3_ BK802))
        go_ret
        exact ⟨by first | rfl | (simp [errW_none, errW_some] <;> rfl) | (simp [*, errW_none, errW_some] <;> rfl), pb_ HB⟩
       ·
        rw [if_neg c230] at H
        have c230b0 : (t831 == a2_0 && ((t832 == a2_1 && (t833 == a2_2)))) = false := by simpa using c230
        (try (have c230b1 : decide (t831 = a2_0 && ((t832 == a2_1 && (t833 == a2_2)))) = false := by simpa using c230))
        (try (have c230b2 : (t831 == a2_0 && ((t832 == a2_1 && (t833 == a2_2)))) = false := by simpa using c230))
        (try (have c230b3 : ¬ (t831 = a2_0 && ((t832 == a2_1 && (t833 == a2_2)))) := by simpa using c230))
        clear c230
        obtain rfl := Option.some.inj H
        exact absurd HRT.out (by decide)
      ·
       rw [if_neg c228] at H
       have c228b0 : (t814 == 0) = false := beq_eq_false_iff_ne.mpr c228
       have c228b1 : (t814 != 0) = true := bne_iff_ne.mpr c228
       obtain rfl := Option.some.inj H
       go_wp2
       go_ret
       exact ⟨by first | rfl | (simp [errW_none, errW_some] <;> rfl) | (simp [*, errW_none, errW_some] <;> rfl), pb_ HB⟩
 ·
  replace c5 := Bool.eq_false_iff.mpr c5
  subst c5
  have H1 : (some false) = some r := by rw [if_neg (show ¬ (false = true) by decide)] at H; exact H
  clear H
  have H := H1
  clear H1
  obtain rfl := Option.some.inj H
  exact absurd HRT.out (by decide)

end Go.Proofs.YtgdgklibilddgaaGreatDoor.PPr

namespace Go.Proofs.YtgdgklibilddgaaGreatDoor.PPr
open Go.RowKit Go.Proofs.YtgdgklibilddgaaGreatDoorW.PrintWords Go.Proofs.YtgdgklibilddgaaGreatDoorW.PrintLast Go.Proofs.YtgdgklibilddgaaGreatDoorW.PrintMore
attribute [local go_sem] max2_int min2_int max_two min_two max_three min_three max_four min_four   -- for this text's walks alone

end Go.Proofs.YtgdgklibilddgaaGreatDoor.PPr

namespace Go.Proofs.YtgdgklibilddgaaGreatDoor.PPr
open Go.RowKit Go.Proofs.YtgdgklibilddgaaGreatDoorW.PrintWords Go.Proofs.YtgdgklibilddgaaGreatDoorW.PrintLast Go.Proofs.YtgdgklibilddgaaGreatDoorW.PrintMore
attribute [local go_sem] max2_int min2_int max_two min_two max_three min_three max_four min_four   -- for this text's walks alone

attribute [local go_sem high] eqA26 eqA38
end Go.Proofs.YtgdgklibilddgaaGreatDoor.PPr

namespace Go.Proofs.YtgdgklibilddgaaGreatDoor.PPr
open Go.RowKit Go.Proofs.YtgdgklibilddgaaGreatDoorW.PrintWords Go.Proofs.YtgdgklibilddgaaGreatDoorW.PrintLast Go.Proofs.YtgdgklibilddgaaGreatDoorW.PrintMore
attribute [local go_sem] max2_int min2_int max_two min_two max_three min_three max_four min_four   -- for this text's walks alone

attribute [local go_sem high] eqA26 eqA38
end Go.Proofs.YtgdgklibilddgaaGreatDoor.PPr

namespace Go.Proofs.YtgdgklibilddgaaGreatDoor
open Go.RowKit Go.Proofs.YtgdgklibilddgaaGreatDoorW.PrintWords Go.Proofs.YtgdgklibilddgaaGreatDoor.PPr

/-- the lowest d bits, the lowest one first -/
def rowL : Nat → Nat → List Int
  | _, 0 => []
  | x, d + 1 => ((x % 2 : Nat) : Int) :: rowL (x / 2) d
theorem rowL_succ (x d : Nat) : rowL x (d + 1) = ((x % 2 : Nat) : Int) :: rowL (x / 2) d := rfl
theorem bit_nat {b : Int} (h : b = 0 ∨ b = 1) : ∃ c : Nat, b = (c : Int) ∧ c ≤ 1 := by
  rcases h with rfl | rfl
  · exact ⟨0, rfl, by omega⟩
  · exact ⟨1, rfl, by omega⟩
theorem rowL_len : ∀ (d x : Nat), (rowL x d).length = d
  | 0, _ => rfl
  | d + 1, x => by simp [rowL, rowL_len d]
theorem rowL_add : ∀ (a b x : Nat), rowL x (a + b) = rowL x a ++ rowL (x / 2 ^ a) b
  | 0, b, x => by simp [rowL]
  | a + 1, b, x => by
    rw [show a + 1 + b = (a + b) + 1 by omega, rowL, rowL_add a b, rowL, List.cons_append, Nat.div_div_eq_div_mul, Nat.pow_succ, Nat.mul_comm 2]
theorem rowL_mod : ∀ (a h l : Nat), rowL (h * 2 ^ a + l) a = rowL l a
  | 0, _, _ => rfl
  | a + 1, h, l => by
    have e : h * 2 ^ (a + 1) = 2 * (h * 2 ^ a) := by rw [Nat.pow_succ]; rw [← Nat.mul_assoc, Nat.mul_comm 2]
    rw [rowL, rowL, show (h * 2 ^ (a + 1) + l) % 2 = l % 2 by omega, show (h * 2 ^ (a + 1) + l) / 2 = h * 2 ^ a + l / 2 by omega, rowL_mod a h]
theorem rowL_join {a b h l : Nat} (hl : l < 2 ^ a) : rowL (h * 2 ^ a + l) (a + b) = rowL l a ++ rowL h b := by
  rw [rowL_add, rowL_mod]
  congr 2
  rw [Nat.mul_comm, Nat.mul_add_div (Nat.two_pow_pos a), Nat.div_eq_of_lt hl, Nat.add_zero]
theorem rowL_bit : ∀ (d x : Nat), ∀ b ∈ rowL x d, b = 0 ∨ b = 1
  | 0, _, b, h => by cases h
  | d + 1, x, b, h => by
    rw [rowL] at h
    rcases List.mem_cons.1 h with rfl | h
    · omega
    · exact rowL_bit d (x / 2) b h
theorem tmod2 (x : Nat) : wrap64 (Int.tmod (x : Int) 2) = ((x % 2 : Nat) : Int) := by
  rw [Int.tmod_eq_emod_of_nonneg (by omega)]; unfold wrap64; omega
theorem tdiv2 (x : Nat) (h : x < 18446744073709551616) : IntKind.u64.wrap (Int.tdiv (x : Int) 2) = ((x / 2 : Nat) : Int) := by
  rw [Int.tdiv_eq_ediv_of_nonneg (by omega)]
  show ((x : Int) / 2) % 18446744073709551616 = _
  omega
theorem w64 {i : Int} (h0 : -9223372036854775808 ≤ i) (h : i < 9223372036854775808) : wrap64 i = i := by unfold wrap64; omega
theorem pbits_l1 (d : Nat) : ∀ (k : Nat) (acc : List Int) (x : Nat), d ≤ 64 → x < 18446744073709551616 → acc.length + d ≤ 1000 → platbookref01_Bits.l1 (k + d + 1) acc x (64 - (d : Int)) = some (acc ++ rowL x d) := by
  induction d with
  | zero => intro k acc x _ _ _; rw [platbookref01_Bits.l1, if_neg (by omega)]; simp [rowL]
  | succ d ih =>
    intro k acc x hd hx ha
    rw [show k + (d + 1) + 1 = (k + d + 1) + 1 by omega, platbookref01_Bits.l1, if_pos (by omega), if_pos (by omega), tmod2, tdiv2 x hx, w64 (by omega) (by omega), show (64 : Int) - ((d + 1 : Nat) : Int) + 1 = 64 - (d : Int) by omega, ih k _ (x / 2) (by omega) (by omega) (by simp; omega), rowL_succ x d]
    simp
theorem pbits_l0 (d : Nat) : ∀ (k : Nat) (acc : List Int) (x h : Nat), d ≤ 64 → x < 18446744073709551616 → h < 18446744073709551616 → acc.length + d + 64 ≤ 1000 → platbookref01_Bits.l0 (k + d + 66) acc x h (64 - (d : Int)) = some (acc ++ rowL x d ++ rowL h 64) := by
  induction d with
  | zero =>
    intro k acc x h _ _ hh ha
    rw [show k + 0 + 66 = (k + 64 + 1) + 1 by omega, platbookref01_Bits.l0, if_neg (by omega)]
    have := pbits_l1 64 k acc h (by omega) hh (by omega)
    rw [show (64 : Int) - ((64 : Nat) : Int) = 0 by omega] at this
    rw [this]; simp [rowL]
  | succ d ih =>
    intro k acc x h hd hx hh ha
    rw [show k + (d + 1) + 66 = (k + d + 66) + 1 by omega, platbookref01_Bits.l0, if_pos (by omega), if_pos (by omega), tmod2, tdiv2 x hx, w64 (by omega) (by omega), show (64 : Int) - ((d + 1 : Nat) : Int) + 1 = 64 - (d : Int) by omega, ih k _ (x / 2) h (by omega) (by omega) hh (by simp; omega), rowL_succ x d]
    simp
theorem pbits_f (k n : Nat) (hn : n < 340282366920938463463374607431768211456) : platbookref01_Bits.f (k + 130) (hi n) (lo n) = some (rowL n 128) := by
  unfold platbookref01_Bits.f hi lo
  have := pbits_l0 64 k [] (n % 18446744073709551616) (n / 18446744073709551616 % 18446744073709551616) (by omega) (by omega) (by omega) (by simp)
  rw [show (64 : Int) - ((64 : Nat) : Int) = 0 by omega] at this
  rw [show k + 130 = k + 64 + 66 by omega, this]
  have e := rowL_join (a := 64) (b := 64) (h := n / 18446744073709551616 % 18446744073709551616) (l := n % 18446744073709551616) (Nat.mod_lt _ (by decide))
  rw [show (2 : Nat) ^ 64 = 18446744073709551616 by decide, show n / 18446744073709551616 % 18446744073709551616 * 18446744073709551616 + n % 18446744073709551616 = n by omega] at e
  rw [List.nil_append, ← e]
/-- an address's bits, the highest one first -/
def rowT (n w : Nat) : List Int := (rowL n w).reverse
theorem prow_l0 (j : Nat) : ∀ (k : Nat) (xs acc : List Int), j ≤ xs.length → xs.length ≤ 1000 → acc.length + j ≤ 1000 → platbookref03_Row.l0 (k + j + 1) xs acc ((j : Int) - 1) = some (acc ++ (xs.take j).reverse) := by
  induction j with
  | zero => intro k xs acc _ _ _; rw [platbookref03_Row.l0, if_neg (by omega)]; simp
  | succ j ih =>
    intro k xs acc hj hx ha
    have e : rd xs (((j + 1 : Nat) : Int) - 1) = xs[j] := by
      unfold rd; rw [show ((((j + 1 : Nat) : Int) - 1)).toNat = j by omega]; simp [List.getD, List.getElem?_eq_getElem (show j < xs.length by omega)]
    rw [show k + (j + 1) + 1 = (k + j + 1) + 1 by omega, platbookref03_Row.l0, if_pos (by omega), if_pos (by omega), if_pos (by omega), if_pos (by omega), w64 (by omega) (by omega), e, show ((j + 1 : Nat) : Int) - 1 - 1 = (j : Int) - 1 by omega, ih k xs _ (by omega) hx (by simp; omega), List.take_succ_eq_append_getElem (show j < xs.length by omega), List.reverse_append]
    simp
theorem width_hl (v : Bool) (n : Nat) : platbookref02_Width.f v (hi n) (lo n) = some ((widthN v : Nat) : Int) := by
  unfold platbookref02_Width.f; rw [if_pos (by simpa using okW_hl n)]
theorem widthN_le (v : Bool) : widthN v ≤ 128 := by cases v <;> decide
theorem widthN_pos (v : Bool) : 32 ≤ widthN v := by cases v <;> decide
theorem prow_f (k : Nat) (v : Bool) (n : Nat) (hn : n < 340282366920938463463374607431768211456) : platbookref03_Row.f (k + 300) v (hi n) (lo n) = some (rowT n (widthN v)) := by
  unfold platbookref03_Row.f
  rw [show k + 300 = (k + 170) + 130 by omega, pbits_f _ n hn, width_hl]
  simp only [Option.bind_some]
  have hw := widthN_le v
  have hp := widthN_pos v
  rw [w64 (by omega) (by omega), show k + 170 + 130 = (k + 299 - widthN v) + widthN v + 1 by omega, prow_l0 _ _ _ _ (by rw [rowL_len]; exact hw) (by rw [rowL_len]; omega) (by simp; omega)]
  have e : rowL n 128 = rowL n (widthN v) ++ rowL (n / 2 ^ widthN v) (128 - widthN v) := by rw [← rowL_add]; congr 1; omega
  rw [e, List.take_left' (rowL_len _ _)]; rfl
/-- the number of a row of bits, the lowest one first -/
def valL : List Int → Nat
  | [] => 0
  | b :: r => b.toNat + 2 * valL r
theorem valL_append : ∀ (a b : List Int), valL (a ++ b) = valL a + 2 ^ a.length * valL b
  | [], b => by simp [valL]
  | x :: a, b => by rw [List.cons_append, valL, valL, valL_append a b, List.length_cons, Nat.pow_succ, Nat.mul_add]; rw [Nat.mul_comm (2 ^ a.length) 2, Nat.mul_assoc]; omega
theorem valL_lt : ∀ (a : List Int), (∀ b ∈ a, b = 0 ∨ b = 1) → valL a < 2 ^ a.length
  | [], _ => by simp [valL]
  | x :: a, h => by
    have h1 := valL_lt a (fun b hb => h b (by simp [hb]))
    have h2 := h x (by simp)
    rw [valL, List.length_cons, Nat.pow_succ]
    rcases h2 with rfl | rfl
    · simp; omega
    · simp; omega
theorem valL_row : ∀ (d x : Nat), valL (rowL x d) = x % 2 ^ d
  | 0, x => by simp [rowL, valL, Nat.mod_one]
  | d + 1, x => by
    rw [rowL, valL, valL_row d, Nat.pow_succ, Nat.mul_comm (2 ^ d) 2, Nat.mod_mul]
    omega
theorem valL_rep (d : Nat) : valL (List.replicate d 0) = 0 := by
  induction d with
  | zero => rfl
  | succ d ih => rw [List.replicate_succ, valL, ih]; rfl
theorem valL_ones (d : Nat) : valL (List.replicate d 1) = 2 ^ d - 1 := by
  induction d with
  | zero => rfl
  | succ d ih => rw [List.replicate_succ, valL, ih, Nat.pow_succ]; have := Nat.two_pow_pos d; simp; omega
theorem u64w {x : Nat} (h : x < 18446744073709551616) : IntKind.u64.wrap (x : Int) = (x : Int) := by show (x : Int) % 18446744073709551616 = _; omega
theorem pnum_l1 (j : Nat) : ∀ (k : Nat) (L : List Int) (H x : Nat), (∀ b ∈ L, b = 0 ∨ b = 1) → L.length ≤ 1000 → j ≤ 1000 → x * 2 ^ j + valL (L.take j) < 18446744073709551616 → platbookref01_Num.l1 (k + j + 1) L ((j : Int) - 1) H x = some ((H : Int), ((x * 2 ^ j + valL (L.take j) : Nat) : Int)) := by
  induction j with
  | zero => intro k L H x _ _ _ _; rw [platbookref01_Num.l1, if_neg (by omega)]; simp [valL]
  | succ j ih =>
    intro k L H x hb hl hj hx
    have hp : 2 ^ (j + 1) = 2 * 2 ^ j := by rw [Nat.pow_succ]; omega
    have hp0 := Nat.two_pow_pos j
    rw [show k + (j + 1) + 1 = (k + j + 1) + 1 by omega, platbookref01_Num.l1, if_pos (by omega)]
    by_cases h : j < L.length
    · have e : L.take (j + 1) = L.take j ++ [L[j]] := List.take_succ_eq_append_getElem h
      have hbj : L[j] = 0 ∨ L[j] = 1 := hb _ (List.getElem_mem h)
      obtain ⟨c, hc, hc2⟩ : ∃ c : Nat, L[j] = (c : Int) ∧ c ≤ 1 := by exact bit_nat hbj
      have er : rd L (((j + 1 : Nat) : Int) - 1) = (c : Int) := by
        unfold rd; rw [show ((((j + 1 : Nat) : Int) - 1)).toNat = j by omega]; simp [List.getD, List.getElem?_eq_getElem h, hc]
      have ev : valL (L.take (j + 1)) = valL (L.take j) + 2 ^ j * c := by
        rw [e, valL_append, List.length_take, Nat.min_eq_left (by omega), hc]; simp [valL]
      have e2 : x * 2 ^ (j + 1) + valL (L.take (j + 1)) = (2 * x + c) * 2 ^ j + valL (L.take j) := by
        rw [ev, hp, Nat.add_mul, Nat.mul_comm (2 ^ j) c, ← Nat.mul_assoc, Nat.mul_comm x 2]; omega
      rw [e2] at hx ⊢
      have hx2 : (2 * x + c) * 1 ≤ (2 * x + c) * 2 ^ j := Nat.mul_le_mul_left _ hp0
      rw [if_pos (by omega), if_pos (by omega), er, w64 (by omega) (by omega), show ((x : Int) * 2) = ((2 * x : Nat) : Int) by omega, u64w (x := 2 * x) (by omega), u64w (x := c) (by omega), show ((2 * x : Nat) : Int) + (c : Int) = ((2 * x + c : Nat) : Int) by omega, u64w (by omega), show ((j + 1 : Nat) : Int) - 1 - 1 = (j : Int) - 1 by omega]
      exact ih k L H (2 * x + c) hb hl (by omega) hx
    · have e : L.take (j + 1) = L.take j := by rw [List.take_of_length_le (by omega), List.take_of_length_le (by omega)]
      have e2 : x * 2 ^ (j + 1) + valL (L.take (j + 1)) = (2 * x) * 2 ^ j + valL (L.take j) := by
        rw [e, hp, ← Nat.mul_assoc, Nat.mul_comm x 2]
      rw [e2] at hx ⊢
      have hx2 : (2 * x) * 1 ≤ (2 * x) * 2 ^ j := Nat.mul_le_mul_left _ hp0
      rw [if_neg (by omega), w64 (by omega) (by omega), show ((x : Int) * 2) = ((2 * x : Nat) : Int) by omega, u64w (by omega), show ((j + 1 : Nat) : Int) - 1 - 1 = (j : Int) - 1 by omega]
      exact ih k L H (2 * x) hb hl (by omega) hx
theorem pnum_l0 (j : Nat) : ∀ (k : Nat) (L : List Int) (x : Nat), (∀ b ∈ L, b = 0 ∨ b = 1) → L.length ≤ 1000 → j ≤ 64 → x * 2 ^ j + valL ((L.drop 64).take j) < 18446744073709551616 → platbookref01_Num.l0 (k + j + 66) L (64 + (j : Int) - 1) x 0 = some (((x * 2 ^ j + valL ((L.drop 64).take j) : Nat) : Int), ((valL (L.take 64) : Nat) : Int)) := by
  induction j with
  | zero =>
    intro k L x hb hl _ _
    rw [show k + 0 + 66 = (k + 64 + 1) + 1 by omega, platbookref01_Num.l0, if_neg (by omega)]
    have hv : valL (L.take 64) < 2 ^ 64 := Nat.lt_of_lt_of_le (valL_lt _ (fun b h => hb b (List.mem_of_mem_take h))) (Nat.pow_le_pow_right (by omega) (by rw [List.length_take]; omega))
    have := pnum_l1 64 k L x 0 hb hl (by omega) (by rw [Nat.zero_mul, Nat.zero_add]; exact hv)
    rw [show ((64 : Nat) : Int) - 1 = 63 by omega, show k + 64 + 1 = k + 65 from rfl, show ((0 : Nat) : Int) = 0 from rfl] at this
    rw [this]; simp [valL]
  | succ j ih =>
    intro k L x hb hl hj hx
    have hp : 2 ^ (j + 1) = 2 * 2 ^ j := by rw [Nat.pow_succ]; omega
    have hp0 := Nat.two_pow_pos j
    rw [show k + (j + 1) + 66 = (k + j + 66) + 1 by omega, platbookref01_Num.l0, if_pos (by omega)]
    by_cases h : 64 + j < L.length
    · have hd : j < (L.drop 64).length := by rw [List.length_drop]; omega
      have e : (L.drop 64).take (j + 1) = (L.drop 64).take j ++ [L[64 + j]] := by rw [List.take_succ_eq_append_getElem hd, List.getElem_drop]
      have hbj : L[64 + j] = 0 ∨ L[64 + j] = 1 := hb _ (List.getElem_mem h)
      obtain ⟨c, hc, hc2⟩ : ∃ c : Nat, L[64 + j] = (c : Int) ∧ c ≤ 1 := by exact bit_nat hbj
      have er : rd L (64 + ((j + 1 : Nat) : Int) - 1) = (c : Int) := by
        unfold rd; rw [show (64 + ((j + 1 : Nat) : Int) - 1).toNat = 64 + j by omega]; simp [List.getD, List.getElem?_eq_getElem h, hc]
      have ev : valL ((L.drop 64).take (j + 1)) = valL ((L.drop 64).take j) + 2 ^ j * c := by
        rw [e, valL_append, List.length_take, Nat.min_eq_left (by omega), hc]; simp [valL]
      have e2 : x * 2 ^ (j + 1) + valL ((L.drop 64).take (j + 1)) = (2 * x + c) * 2 ^ j + valL ((L.drop 64).take j) := by
        rw [ev, hp, Nat.add_mul, Nat.mul_comm (2 ^ j) c, ← Nat.mul_assoc, Nat.mul_comm x 2]; omega
      rw [e2] at hx ⊢
      have hx2 : (2 * x + c) * 1 ≤ (2 * x + c) * 2 ^ j := Nat.mul_le_mul_left _ hp0
      rw [if_pos (by omega), if_pos (by omega), er, w64 (by omega) (by omega), show ((x : Int) * 2) = ((2 * x : Nat) : Int) by omega, u64w (x := 2 * x) (by omega), u64w (x := c) (by omega), show ((2 * x : Nat) : Int) + (c : Int) = ((2 * x + c : Nat) : Int) by omega, u64w (by omega), show 64 + ((j + 1 : Nat) : Int) - 1 - 1 = 64 + (j : Int) - 1 by omega]
      exact ih k L (2 * x + c) hb hl (by omega) hx
    · have hd : (L.drop 64).length ≤ j := by rw [List.length_drop]; omega
      have e : (L.drop 64).take (j + 1) = (L.drop 64).take j := by rw [List.take_of_length_le (by omega), List.take_of_length_le (by omega)]
      have e2 : x * 2 ^ (j + 1) + valL ((L.drop 64).take (j + 1)) = (2 * x) * 2 ^ j + valL ((L.drop 64).take j) := by
        rw [e, hp, ← Nat.mul_assoc, Nat.mul_comm x 2]
      rw [e2] at hx ⊢
      have hx2 : (2 * x) * 1 ≤ (2 * x) * 2 ^ j := Nat.mul_le_mul_left _ hp0
      rw [if_neg (by omega), w64 (by omega) (by omega), show ((x : Int) * 2) = ((2 * x : Nat) : Int) by omega, u64w (by omega), show 64 + ((j + 1 : Nat) : Int) - 1 - 1 = 64 + (j : Int) - 1 by omega]
      exact ih k L (2 * x) hb hl (by omega) hx
theorem pnum_f (k : Nat) (L : List Int) (hb : ∀ b ∈ L, b = 0 ∨ b = 1) (hl : L.length ≤ 128) : platbookref01_Num.f (k + 130) L = some (hi (valL L), lo (valL L)) := by
  unfold platbookref01_Num.f
  have hbd : ∀ b ∈ L.drop 64, b = 0 ∨ b = 1 := fun b h => hb b (List.mem_of_mem_drop h)
  have hv : valL (L.drop 64) < 2 ^ 64 := Nat.lt_of_lt_of_le (valL_lt _ hbd) (Nat.pow_le_pow_right (by omega) (by rw [List.length_drop]; omega))
  have ht : (L.drop 64).take 64 = L.drop 64 := List.take_of_length_le (by rw [List.length_drop]; omega)
  have := pnum_l0 64 k L 0 hb (by omega) (by omega) (by rw [Nat.zero_mul, Nat.zero_add, ht]; exact hv)
  rw [show (64 : Int) + ((64 : Nat) : Int) - 1 = 127 by omega, Nat.zero_mul, Nat.zero_add, ht] at this
  rw [show k + 130 = k + 64 + 66 by omega]
  rw [show ((0 : Nat) : Int) = 0 from rfl] at this
  rw [this]
  have hlo : valL (L.take 64) < 2 ^ 64 := Nat.lt_of_lt_of_le (valL_lt _ (fun b h => hb b (List.mem_of_mem_take h))) (Nat.pow_le_pow_right (by omega) (by rw [List.length_take]; omega))
  have e : valL L = valL (L.take 64) + 2 ^ (L.take 64).length * valL (L.drop 64) := by rw [← valL_append, List.take_append_drop]
  have e2 : valL L = valL (L.take 64) + 18446744073709551616 * valL (L.drop 64) := by
    by_cases h : 64 ≤ L.length
    · rw [e, List.length_take, Nat.min_eq_left h]
    · have : L.drop 64 = [] := List.drop_eq_nil_of_le (by omega)
      rw [e, this]; simp [valL]
  rw [show (2 : Nat) ^ 64 = 18446744073709551616 by decide] at hv hlo
  unfold hi lo
  rw [show valL L / 18446744073709551616 % 18446744073709551616 = valL (L.drop 64) by omega, show valL L % 18446744073709551616 = valL (L.take 64) by omega]
theorem paddr_l0 (j : Nat) : ∀ (k : Nat) (v : Bool) (xs acc : List Int), j ≤ xs.length → xs.length ≤ 128 → acc.length + j ≤ 128 → (∀ b ∈ xs, b = 0 ∨ b = 1) → (∀ b ∈ acc, b = 0 ∨ b = 1) → platbookref03_Addr.l0 (k + j + 131) v xs acc ((j : Int) - 1) = some (v, hi (valL (acc ++ (xs.take j).reverse)), lo (valL (acc ++ (xs.take j).reverse))) := by
  induction j with
  | zero =>
    intro k v xs acc _ _ ha hb1 hb2
    rw [show k + 0 + 131 = (k + 130) + 1 by omega, platbookref03_Addr.l0, if_neg (by omega), pnum_f k acc hb2 (by omega)]
    simp
  | succ j ih =>
    intro k v xs acc hj hx ha hb1 hb2
    have e : rd xs (((j + 1 : Nat) : Int) - 1) = xs[j] := by
      unfold rd; rw [show ((((j + 1 : Nat) : Int) - 1)).toNat = j by omega]; simp [List.getD, List.getElem?_eq_getElem (show j < xs.length by omega)]
    rw [show k + (j + 1) + 131 = (k + j + 131) + 1 by omega, platbookref03_Addr.l0, if_pos (by omega), if_pos (by omega), if_pos (by omega), if_pos (by omega), w64 (by omega) (by omega), e, show ((j + 1 : Nat) : Int) - 1 - 1 = (j : Int) - 1 by omega, ih k v xs _ (by omega) hx (by simp; omega) hb1 (by
      intro b h
      rcases List.mem_append.1 h with h | h
      · exact hb2 b h
      · rw [List.mem_singleton] at h; subst h; exact hb1 _ (List.getElem_mem _)), List.take_succ_eq_append_getElem (show j < xs.length by omega), List.reverse_append]
    simp
theorem paddr_f (k : Nat) (v : Bool) (xs : List Int) (hx : xs.length ≤ 128) (hb : ∀ b ∈ xs, b = 0 ∨ b = 1) : platbookref03_Addr.f (k + 300) v xs = some (v, hi (valL xs.reverse), lo (valL xs.reverse)) := by
  unfold platbookref03_Addr.f
  rw [w64 (by omega) (by omega), show k + 300 = (k + 169 - xs.length) + xs.length + 131 by omega, paddr_l0 _ _ _ _ _ (Nat.le_refl _) hx (by simpa using hx) hb (by simp)]
  simp
theorem pfilled_l0 (d : Nat) : ∀ (k i : Nat) (bit : Int) (xs : List Int) (v : Bool) (h l : Int), i + d = xs.length → xs.length ≤ 128 → (∀ b ∈ xs, b = 0 ∨ b = 1) → (bit = 0 ∨ bit = 1) → platbookref03_Filled.l0 (k + d + 301) bit xs i v h l = some (v, hi (valL (xs.take i ++ List.replicate d bit).reverse), lo (valL (xs.take i ++ List.replicate d bit).reverse)) := by
  induction d with
  | zero =>
    intro k i bit xs v h l hi hx hb _
    rw [show k + 0 + 301 = (k + 300) + 1 by omega, platbookref03_Filled.l0, if_neg (by omega), paddr_f k v xs hx hb, List.take_of_length_le (by omega)]
    simp
  | succ d ih =>
    intro k i bit xs v h l hi hx hb hbit
    rw [show k + (d + 1) + 301 = (k + d + 301) + 1 by omega, platbookref03_Filled.l0, if_pos (by omega), if_pos (by omega), w64 (by omega) (by omega), show ((i : Int)).toNat = i by omega, show (i : Int) + 1 = ((i + 1 : Nat) : Int) by omega, ih k (i + 1) bit (xs.set i bit) v h l (by rw [List.length_set]; omega) (by rw [List.length_set]; omega) (by
      intro b h
      rcases List.mem_or_eq_of_mem_set h with h | rfl
      · exact hb b h
      · exact hbit) hbit]
    have e : (xs.set i bit).take (i + 1) = xs.take i ++ [bit] := by
      rw [List.take_succ_eq_append_getElem (by rw [List.length_set]; omega), List.getElem_set_self, List.take_set_of_le (Nat.le_refl _)]
    rw [e, List.append_assoc, List.replicate_succ]; rfl
theorem rowT_len (n w : Nat) : (rowT n w).length = w := by unfold rowT; rw [List.length_reverse, rowL_len]
theorem pfilled_f (k : Nat) (v : Bool) (n : Nat) (i : Nat) (bit : Int) (hn : n < 340282366920938463463374607431768211456) (hi' : i ≤ widthN v) (hbit : bit = 0 ∨ bit = 1) : platbookref03_Filled.f (k + 500) v (hi n) (lo n) i bit = some (v, hi (n / 2 ^ (widthN v - i) % 2 ^ i * 2 ^ (widthN v - i) + bit.toNat * (2 ^ (widthN v - i) - 1)), lo (n / 2 ^ (widthN v - i) % 2 ^ i * 2 ^ (widthN v - i) + bit.toNat * (2 ^ (widthN v - i) - 1))) := by
  unfold platbookref03_Filled.f
  have hw := widthN_le v
  rw [show k + 500 = (k + 200) + 300 by omega, prow_f _ v n hn]
  simp only [Option.bind_some]
  rw [show k + 200 + 300 = (k + 199 - (widthN v - i)) + (widthN v - i) + 301 by omega, pfilled_l0 (widthN v - i) _ i bit _ v _ _ (by rw [rowT_len]; omega) (by rw [rowT_len]; omega) (by intro b h; unfold rowT at h; rw [List.mem_reverse] at h; exact rowL_bit _ _ b h) hbit]
  have e : valL ((rowT n (widthN v)).take i ++ List.replicate (widthN v - i) bit).reverse = n / 2 ^ (widthN v - i) % 2 ^ i * 2 ^ (widthN v - i) + bit.toNat * (2 ^ (widthN v - i) - 1) := by
    rw [List.reverse_append, List.reverse_replicate, valL_append, List.length_replicate]
    have e1 : ((rowT n (widthN v)).take i).reverse = rowL (n / 2 ^ (widthN v - i)) i := by
      unfold rowT
      rw [show widthN v = (widthN v - i) + i by omega, rowL_add, List.reverse_append, List.take_left' (by rw [List.length_reverse, rowL_len]), List.reverse_reverse]
      rw [show widthN v - i + i - i = widthN v - i by omega]
    have e2 : valL (List.replicate (widthN v - i) bit) = bit.toNat * (2 ^ (widthN v - i) - 1) := by
      rcases hbit with rfl | rfl
      · rw [valL_rep]; simp
      · rw [valL_ones]; simp
    rw [e1, valL_row, e2, Nat.mul_comm (2 ^ (widthN v - i))]
    omega
  rw [e]
/-- how many first ones two rows have alike -/
def alikeL : List Int → List Int → Nat
  | a :: x, b :: y => if a = b then alikeL x y + 1 else 0
  | _, _ => 0
theorem palike_l0 (d : Nat) : ∀ (k i : Nat) (x y : List Int), i + d = x.length → x.length = y.length → x.length ≤ 1000 → platbookref03_Alike.l0 (k + d + 1) x y i = some (((i + alikeL (x.drop i) (y.drop i) : Nat)) : Int) := by
  induction d with
  | zero =>
    intro k i x y hi hxy _
    rw [platbookref03_Alike.l0, if_neg (by omega), List.drop_eq_nil_of_le (by omega)]; rfl
  | succ d ih =>
    intro k i x y hi hxy hx
    have e1 : rd x (i : Int) = x[i] := by unfold rd; simp [List.getD, List.getElem?_eq_getElem (show i < x.length by omega)]
    have e2 : rd y (i : Int) = y[i] := by unfold rd; simp [List.getD, List.getElem?_eq_getElem (show i < y.length by omega)]
    rw [show k + (d + 1) + 1 = (k + d + 1) + 1 by omega, platbookref03_Alike.l0, if_pos (by omega), if_pos (by omega), if_pos (by omega), e1, e2, List.drop_eq_getElem_cons (show i < x.length by omega), List.drop_eq_getElem_cons (show i < y.length by omega), alikeL]
    by_cases h : x[i] = y[i]
    · rw [if_pos h, if_pos h, w64 (by omega) (by omega), show (i : Int) + 1 = ((i + 1 : Nat) : Int) by omega, ih k (i + 1) x y (by omega) hxy hx]
      congr 2; omega
    · rw [if_neg h, if_neg h]; simp
theorem palike_f (k : Nat) (x y : List Int) (hxy : x.length = y.length) (hx : x.length ≤ 128) : platbookref03_Alike.f (k + 200) x y = some ((alikeL x y : Nat) : Int) := by
  unfold platbookref03_Alike.f
  have := palike_l0 x.length (k + 199 - x.length) 0 x y (by omega) hxy (by omega)
  rw [show k + 199 - x.length + x.length + 1 = k + 200 by omega] at this
  rw [show ((0 : Nat) : Int) = 0 from rfl] at this
  rw [this]; simp
theorem rowT_succ (n w : Nat) : rowT n (w + 1) = ((n / 2 ^ w % 2 : Nat) : Int) :: rowT n w := by
  unfold rowT; rw [rowL_add, List.reverse_append]; rfl
theorem alike_ge (x y : Nat) : ∀ (w b : Nat), b ≤ w → (b ≤ alikeL (rowT x w) (rowT y w) ↔ x / 2 ^ (w - b) % 2 ^ b = y / 2 ^ (w - b) % 2 ^ b)
  | 0, b, h => by
    have : b = 0 := by omega
    subst this; simp [Nat.mod_one]
  | w + 1, 0, h => by simp [Nat.mod_one]
  | w + 1, b + 1, h => by
    have ih := alike_ge x y w b (by omega)
    have key : ∀ z : Nat, z / 2 ^ (w - b) % 2 ^ (b + 1) = z / 2 ^ (w - b) % 2 ^ b + 2 ^ b * (z / 2 ^ w % 2) := by
      intro z
      have e := Nat.mod_pow_succ (x := z / 2 ^ (w - b)) (b := 2) (k := b)
      rw [Nat.div_div_eq_div_mul, ← Nat.pow_add, show w - b + b = w by omega] at e
      exact e
    rw [rowT_succ, rowT_succ, alikeL, show w + 1 - (b + 1) = w - b by omega, key, key]
    have h1 : x / 2 ^ (w - b) % 2 ^ b < 2 ^ b := Nat.mod_lt _ (Nat.two_pow_pos b)
    have h2 : y / 2 ^ (w - b) % 2 ^ b < 2 ^ b := Nat.mod_lt _ (Nat.two_pow_pos b)
    generalize x / 2 ^ (w - b) % 2 ^ b = p at *
    generalize y / 2 ^ (w - b) % 2 ^ b = q at *
    have h3 : x / 2 ^ w % 2 < 2 := Nat.mod_lt _ (by omega)
    have h4 : y / 2 ^ w % 2 < 2 := Nat.mod_lt _ (by omega)
    generalize x / 2 ^ w % 2 = s at *
    generalize y / 2 ^ w % 2 = t at *
    generalize 2 ^ b = P at *
    by_cases e : s = t
    · subst e
      rw [if_pos rfl, Nat.add_le_add_iff_right, ih]
      omega
    · rw [if_neg (by omega)]
      constructor
      · intro h; omega
      · intro h
        exfalso
        have : (s = 0 ∧ t = 1) ∨ (s = 1 ∧ t = 0) := by omega
        rcases this with ⟨rfl, rfl⟩ | ⟨rfl, rfl⟩
        · simp at h; omega
        · simp at h; omega
end Go.Proofs.YtgdgklibilddgaaGreatDoor

namespace Go.Proofs.YtgdgklibilddgaaGreatDoor
open Go.RowKit Go.Proofs.YtgdgklibilddgaaGreatDoorW.PrintWords Go.Proofs.YtgdgklibilddgaaGreatDoor.PPr

/-- as a rewriting step, not by computation -/
theorem bsome {α β : Type} (x : α) (f : α → Option β) : (some x).bind f = f x := by
  have h : ∀ y : Option α, y = some x → y.bind f = f x := by intro y hy; subst hy; rfl
  exact h _ rfl
theorem aright_hl (v : Bool) {n : Nat} (hn : n < 340282366920938463463374607431768211456) : addr_Right.f v (hi n) (lo n) = some (rightB v n) := by
  unfold addr_Right.f; rw [if_pos (okW_hl n), num_hi_lo hn]
theorem rright02_hl (v : Bool) {n : Nat} (hn : n < 340282366920938463463374607431768211456) : platbookref02_Right.f v (hi n) (lo n) = some (rightB v n) := by
  unfold platbookref02_Right.f; rw [if_pos (okW_hl n), num_hi_lo hn]
theorem awidth_hl (v : Bool) (n : Nat) : addr_Width.f v (hi n) (lo n) = some ((widthN v : Nat) : Int) := by
  unfold addr_Width.f; rw [if_pos (okW_hl n)]
theorem pright_hl (v : Bool) {n : Nat} (b : Int) (hn : n < 340282366920938463463374607431768211456) : prefix_Right.f v (hi n) (lo n) b = some (rightP v n b) := by
  unfold prefix_Right.f; rw [if_pos (okW_hl n), num_hi_lo hn]
theorem free_hl (v : Bool) (n : Nat) {b : Int} (h0 : 0 ≤ b) (h1 : b ≤ (widthN v : Int)) : prefix_free.f v (hi n) (lo n) b = some (hi (2 ^ fr v b - 1), lo (2 ^ fr v b - 1)) := by
  unfold prefix_free.f; rw [okW_hl, decide_eq_true h0, decide_eq_true h1]; rfl
theorem not_hl {n : Nat} (hn : n < 340282366920938463463374607431768211456) : num_Not.f (hi n) (lo n) = some (hi (notN n), lo (notN n)) := by
  unfold num_Not.f; rw [if_pos (okW_hl n), num_hi_lo hn]
theorem and_hl {n m : Nat} (hn : n < 340282366920938463463374607431768211456) (hm : m < 340282366920938463463374607431768211456) : num_And.f (hi n) (lo n) (hi m) (lo m) = some (hi (n &&& m), lo (n &&& m)) := by
  unfold num_And.f; rw [okW_hl, okW_hl, num_hi_lo hn, num_hi_lo hm]; rfl
theorem or_hl {n m : Nat} (hn : n < 340282366920938463463374607431768211456) (hm : m < 340282366920938463463374607431768211456) : num_Or.f (hi n) (lo n) (hi m) (lo m) = some (hi (n ||| m), lo (n ||| m)) := by
  unfold num_Or.f; rw [okW_hl, okW_hl, num_hi_lo hn, num_hi_lo hm]; rfl
theorem hl_eq {a b : Nat} (ha : a < 340282366920938463463374607431768211456) (hb : b < 340282366920938463463374607431768211456) : (hi a == hi b && lo a == lo b) = (a == b) := by
  rw [Bool.eq_iff_iff]; simp only [Bool.and_eq_true, beq_iff_eq]; exact hi_lo_eq ha hb
theorem rightP_iff {v : Bool} {n : Nat} {b : Int} : rightP v n b = true ↔ n < 2 ^ widthN v ∧ 0 ≤ b ∧ b ≤ (widthN v : Int) ∧ n % 2 ^ fr v b = 0 := by
  unfold rightP rightB; simp
theorem rightB_iff {v : Bool} {n : Nat} : rightB v n = true ↔ n < 2 ^ widthN v := by unfold rightB; simp
theorem pow_w (v : Bool) : 2 ^ widthN v ≤ 340282366920938463463374607431768211456 := by cases v <;> decide
theorem top_lt {f n : Nat} (hn : n < 340282366920938463463374607431768211456) : topN f n < 340282366920938463463374607431768211456 := Nat.lt_of_le_of_lt (topN_le f n) hn
/-- without the bits behind: the reference's way -/
theorem top_ref {v : Bool} {n i : Nat} (hn : n < 2 ^ widthN v) (hi : i ≤ widthN v) : n / 2 ^ (widthN v - i) % 2 ^ i * 2 ^ (widthN v - i) = topN (widthN v - i) n := by
  unfold topN
  rw [Nat.mod_eq_of_lt]
  rw [Nat.div_lt_iff_lt_mul (Nat.two_pow_pos _), ← Nat.pow_add, show i + (widthN v - i) = widthN v by omega]; exact hn
def ofS (v : Bool) (n : Nat) (b : Int) : Bool × Nat × Int × Int := if rightB v n = true ∧ 0 ≤ b ∧ b ≤ (widthN v : Int) then (v, topN (fr v b) n, b, 0) else (false, 0, 0, 1)
def tup5 (x : Bool × Nat × Int × Int) : Bool × Int × Int × Int × Int := (x.1, hi x.2.1, lo x.2.1, x.2.2.1, x.2.2.2)
theorem hi00 : hi 0 = 0 := rfl
theorem lo00 : lo 0 = 0 := rfl
theorem fr_lt (v : Bool) (b : Int) : 2 ^ fr v b - 1 < 340282366920938463463374607431768211456 := pow_fr v b
theorem of_f (K : Nat) (hK : 1 ≤ K) (v : Bool) (n : Nat) (b : Int) (hn : n < 340282366920938463463374607431768211456) : prefix_Of.f K v (hi n) (lo n) b = some (tup5 (ofS v n b)) := by
  obtain ⟨k, rfl⟩ : ∃ k, K = k + 1 := ⟨K - 1, by omega⟩
  unfold prefix_Of.f ofS
  rw [aright_hl v hn]
  simp only [bsome]
  cases hr : rightB v n
  · rw [if_neg (by simp), if_neg (by simp), prefix_Of.j0, if_pos rfl]; rfl
  · rw [if_pos rfl]
    by_cases h0 : b < 0
    · rw [if_pos h0, if_neg (by omega), prefix_Of.j0, if_pos rfl]; rfl
    · rw [if_neg h0, awidth_hl]
      simp only [bsome]
      by_cases h1 : b ≤ (widthN v : Int)
      · rw [if_pos ⟨trivial, by omega, h1⟩, prefix_Of.j0, if_neg (by simp; omega), free_hl v n (by omega) h1]
        simp only [bsome]
        have hf := fr_lt v b
        have hnn : notN (2 ^ fr v b - 1) < 340282366920938463463374607431768211456 := by unfold notN; omega
        rw [not_hl hf]
        simp only [bsome]
        rw [and_hl hn hnn]
        have e : n &&& notN (2 ^ fr v b - 1) = topN (fr v b) n := by
          have := and_not (n := n) (f := fr v b) (k := 128) (fr_le v b) (by rw [show (2 : Nat) ^ 128 = 340282366920938463463374607431768211456 by decide]; exact hn)
          rw [← this]; unfold notN
          rw [show (340282366920938463463374607431768211455 : Nat) = 2 ^ 128 - 1 by decide]
        rw [e]
        simp only [tup5, bsome]
      · rw [if_neg (by simp only [true_and]; omega), prefix_Of.j0, if_pos (by simp; omega)]; rfl
theorem rrightP_f (K : Nat) (hK : 600 ≤ K) (v : Bool) (n : Nat) (b : Int) (hn : n < 340282366920938463463374607431768211456) : platbookref03_Right.f K v (hi n) (lo n) b = some (rightP v n b) := by
  obtain ⟨k, rfl⟩ : ∃ k, K = k + 500 := ⟨K - 500, by omega⟩
  unfold platbookref03_Right.f
  rw [rright02_hl v hn]
  simp only [bsome]
  unfold rightP
  cases hr : rightB v n
  · rw [if_neg (by simp)]; rfl
  · rw [if_pos rfl]
    by_cases h0 : b < 0
    · rw [if_pos h0, decide_eq_false (by omega)]; rfl
    · rw [if_neg h0, width_hl, decide_eq_true (show 0 ≤ b by omega)]
      simp only [bsome]
      by_cases h1 : b ≤ (widthN v : Int)
      · rw [if_neg (by omega), decide_eq_true h1]
        obtain ⟨i, rfl⟩ := Int.eq_ofNat_of_zero_le (show 0 ≤ b by omega)
        rw [pfilled_f k v n i 0 hn (by omega) (.inl rfl), top_ref (rightB_iff.1 hr) (by omega)]
        have e : fr v (i : Int) = widthN v - i := by unfold fr; omega
        simp only [bsome, Int.toNat_zero, Nat.zero_mul, Nat.add_zero]
        rw [hl_eq (top_lt hn) hn, e]
        simp only [beq_self_eq_true, Bool.true_and, Option.some.injEq]
        rw [Bool.eq_iff_iff]; simp [topN_eq]
      · rw [if_pos (by omega), decide_eq_false h1]; rfl
def lastS (v : Bool) (n : Nat) (b : Int) : Bool × Nat := if rightP v n b = true then (v, n + (2 ^ fr v b - 1)) else (false, 0)
def tup3 (x : Bool × Nat) : Bool × Int × Int := (x.1, hi x.2, lo x.2)
theorem last_lt {v : Bool} {n : Nat} {b : Int} (h : rightP v n b = true) : n + (2 ^ fr v b - 1) < 2 ^ widthN v := by
  obtain ⟨h1, h2, h3, h4⟩ := rightP_iff.1 h
  have hf : fr v b ≤ widthN v := by unfold fr; omega
  have hp := Nat.two_pow_pos (fr v b)
  obtain ⟨q, hq⟩ := Nat.dvd_of_mod_eq_zero h4
  have e : 2 ^ widthN v = 2 ^ fr v b * 2 ^ (widthN v - fr v b) := by rw [← Nat.pow_add]; congr 1; omega
  rw [hq, e] at h1
  rw [hq, e]
  have h5 : q < 2 ^ (widthN v - fr v b) := Nat.lt_of_mul_lt_mul_left h1
  have h6 : 2 ^ fr v b * (q + 1) ≤ 2 ^ fr v b * 2 ^ (widthN v - fr v b) := Nat.mul_le_mul_left _ h5
  rw [Nat.mul_add, Nat.mul_one] at h6
  omega
theorem lastS_lt (v : Bool) (n : Nat) (b : Int) : (lastS v n b).2 < 340282366920938463463374607431768211456 := by
  unfold lastS; split
  · rename_i h; exact Nat.lt_of_lt_of_le (last_lt h) (pow_w v)
  · decide
theorem rlast_f (K : Nat) (hK : 600 ≤ K) (v : Bool) (n : Nat) (b : Int) (hn : n < 340282366920938463463374607431768211456) : platbookref03_Last.f K v (hi n) (lo n) b = some (tup3 (lastS v n b)) := by
  unfold platbookref03_Last.f lastS
  rw [rrightP_f K hK v n b hn]
  simp only [bsome]
  cases h : rightP v n b
  · simp [tup3, hi00, lo00]
  · obtain ⟨h1, h2, h3, h4⟩ := rightP_iff.1 h
    rw [if_pos rfl, if_pos rfl]
    obtain ⟨i, rfl⟩ := Int.eq_ofNat_of_zero_le h2
    obtain ⟨k, rfl⟩ : ∃ k, K = k + 500 := ⟨K - 500, by omega⟩
    have e : fr v (i : Int) = widthN v - i := by unfold fr; omega
    rw [pfilled_f k v n i 1 hn (by omega) (.inr rfl), top_ref h1 (by omega), ← e, topN_eq.2 h4]
    simp [tup3]
def hasS (v : Bool) (n : Nat) (b : Int) (u : Bool) (m : Nat) : Bool := rightP v n b && (rightB u m && (u == v && topN (fr v b) m == n))
theorem has_f (K : Nat) (hK : 1 ≤ K) (v : Bool) (n : Nat) (b : Int) (u : Bool) (m : Nat) (hn : n < 340282366920938463463374607431768211456) (hm : m < 340282366920938463463374607431768211456) : prefix_Has.f K v (hi n) (lo n) b u (hi m) (lo m) = some (hasS v n b u m) := by
  unfold prefix_Has.f hasS
  rw [pright_hl v b hn, aright_hl u hm, of_f K hK u m b hm]
  simp only [bsome]
  cases h : rightP v n b
  · rfl
  · cases hu : rightB u m
    · rfl
    · rw [if_pos rfl, if_pos rfl]
      by_cases huv : u = v
      · subst huv
        obtain ⟨h1, h2, h3, h4⟩ := rightP_iff.1 h
        rw [if_neg (by simp)]
        unfold ofS
        rw [if_pos ⟨hu, h2, h3⟩]
        simp only [tup5]
        rw [hl_eq (top_lt hm) hn]
        simp
      · rw [if_pos (by simpa using huv)]
        simp [huv]
theorem rhas_f (K : Nat) (hK : 700 ≤ K) (v : Bool) (n : Nat) (b : Int) (u : Bool) (m : Nat) (hn : n < 340282366920938463463374607431768211456) (hm : m < 340282366920938463463374607431768211456) : platbookref03_Has.f K v (hi n) (lo n) b u (hi m) (lo m) = some (hasS v n b u m) := by
  obtain ⟨k, rfl⟩ : ∃ k, K = k + 300 + 1 := ⟨K - 301, by omega⟩
  unfold platbookref03_Has.f hasS
  rw [rrightP_f _ (by omega) v n b hn, rright02_hl u hm]
  simp only [bsome]
  cases h : rightP v n b
  · rw [if_neg (by simp), platbookref03_Has.j0, if_pos rfl]; rfl
  · cases hu : rightB u m
    · rw [if_pos rfl, if_neg (by simp), platbookref03_Has.j0, if_pos rfl]; rfl
    · rw [if_pos rfl, if_pos rfl]
      by_cases huv : u = v
      · subst huv
        obtain ⟨h1, h2, h3, h4⟩ := rightP_iff.1 h
        rw [platbookref03_Has.j0, if_neg (by simp), prow_f k u n hn, prow_f k u m hm]
        simp only [bsome]
        rw [show k + 300 = (k + 100) + 200 by omega, palike_f _ _ _ (by rw [rowT_len, rowT_len]) (by rw [rowT_len]; exact widthN_le u)]
        simp only [bsome, Bool.true_and, beq_self_eq_true, Option.some.injEq]
        obtain ⟨i, rfl⟩ := Int.eq_ofNat_of_zero_le h2
        have hi' : i ≤ widthN u := by omega
        have e : fr u (i : Int) = widthN u - i := by unfold fr; omega
        have hl : ∀ z : Nat, z < 2 ^ widthN u → z / 2 ^ (widthN u - i) % 2 ^ i = z / 2 ^ (widthN u - i) := by
          intro z hz
          apply Nat.mod_eq_of_lt
          rw [Nat.div_lt_iff_lt_mul (Nat.two_pow_pos _), ← Nat.pow_add, show i + (widthN u - i) = widthN u by omega]; exact hz
        rw [Bool.eq_iff_iff, decide_eq_true_iff, beq_iff_eq, topN_iff h4, e]
        have := alike_ge n m (widthN u) i hi'
        rw [hl n h1, hl m (rightB_iff.1 hu)] at this
        constructor
        · intro hge; exact (this.1 (by omega)).symm
        · intro heq; have := this.2 heq.symm; omega
      · rw [platbookref03_Has.j0, if_pos (by simpa using huv)]
        simp [huv]
def withinS (v : Bool) (n : Nat) (b : Int) (u : Bool) (m : Nat) (c : Int) : Bool := rightP v n b && (rightP u m c && (decide (c ≤ b) && hasS u m c v n))
theorem within_f (K : Nat) (hK : 1 ≤ K) (v : Bool) (n : Nat) (b : Int) (u : Bool) (m : Nat) (c : Int) (hn : n < 340282366920938463463374607431768211456) (hm : m < 340282366920938463463374607431768211456) : prefix_Within.f K v (hi n) (lo n) b u (hi m) (lo m) c = some (withinS v n b u m c) := by
  unfold prefix_Within.f withinS
  rw [pright_hl v b hn, pright_hl u c hm, has_f K hK u m c v n hm hn]
  simp only [bsome]
  cases rightP v n b
  · rfl
  · cases rightP u m c
    · rfl
    · rw [if_pos rfl, if_pos rfl]
      by_cases h : c ≤ b
      · rw [if_pos h, decide_eq_true h]; rfl
      · rw [if_neg h, decide_eq_false h]; rfl
theorem div_mono {a x y f g : Nat} (h : x / 2 ^ f = y / 2 ^ f) (hfg : f ≤ g) : x / 2 ^ g = y / 2 ^ g := by
  have e : 2 ^ g = 2 ^ f * 2 ^ (g - f) := by rw [← Nat.pow_add]; congr 1; omega
  rw [e, ← Nat.div_div_eq_div_mul, ← Nat.div_div_eq_div_mul, h]
theorem hasS_right {v : Bool} {n : Nat} {b : Int} {u : Bool} {m : Nat} (h : hasS v n b u m = true) : rightP v n b = true ∧ rightB u m = true ∧ u = v ∧ m / 2 ^ fr v b = n / 2 ^ fr v b := by
  unfold hasS at h
  simp only [Bool.and_eq_true, beq_iff_eq] at h
  obtain ⟨h1, h2, h3, h4⟩ := h
  exact ⟨h1, h2, h3, (topN_iff (rightP_iff.1 h1).2.2.2).1 h4⟩
theorem hasS_mk {v : Bool} {n : Nat} {b : Int} {m : Nat} (h1 : rightP v n b = true) (h2 : rightB v m = true) (h : m / 2 ^ fr v b = n / 2 ^ fr v b) : hasS v n b v m = true := by
  unfold hasS
  rw [h1, h2]
  simp only [Bool.true_and, beq_self_eq_true, beq_iff_eq]
  exact (topN_iff (rightP_iff.1 h1).2.2.2).2 h
theorem rightP_B {v : Bool} {n : Nat} {b : Int} (h : rightP v n b = true) : rightB v n = true := rightB_iff.2 (rightP_iff.1 h).1
/-- one that has both ends of another one has no more bits -/
theorem ends_bits {u : Bool} {m : Nat} {c : Int} {n : Nat} {b : Int} (hq : hasS u m c u n = true) (hl : hasS u m c u (n + (2 ^ fr u b - 1)) = true) (hp : rightP u n b = true) : c ≤ b := by
  obtain ⟨h1, _, _, h4⟩ := hasS_right hq
  obtain ⟨_, _, _, h5⟩ := hasS_right hl
  obtain ⟨p1, p2, p3, p4⟩ := rightP_iff.1 hp
  obtain ⟨q1, q2, q3, q4⟩ := rightP_iff.1 h1
  refine Classical.byContradiction fun hcb => ?_
  have hlt : fr u c < fr u b := by unfold fr; omega
  rw [← h4] at h5
  have hp2 : 2 ^ fr u b = 2 ^ fr u c * 2 ^ (fr u b - fr u c) := by rw [← Nat.pow_add]; congr 1; omega
  have hge : 2 ≤ 2 ^ (fr u b - fr u c) := by
    have := Nat.pow_le_pow_right (n := 2) (by omega) (show 1 ≤ fr u b - fr u c by omega)
    simpa using this
  have hpos := Nat.two_pow_pos (fr u c)
  have hle : n + 2 ^ fr u c ≤ n + (2 ^ fr u b - 1) := by
    rw [hp2]
    have := Nat.mul_le_mul_left (2 ^ fr u c) hge
    omega
  have h6 := Nat.div_le_div_right (c := 2 ^ fr u c) hle
  rw [Nat.add_div_right _ hpos, h5] at h6
  omega
theorem rwithin_f (K : Nat) (hK : 700 ≤ K) (v : Bool) (n : Nat) (b : Int) (u : Bool) (m : Nat) (c : Int) (hn : n < 340282366920938463463374607431768211456) (hm : m < 340282366920938463463374607431768211456) : platbookref03_Within.f K v (hi n) (lo n) b u (hi m) (lo m) c = some (withinS v n b u m c) := by
  unfold platbookref03_Within.f withinS
  rw [rrightP_f K (by omega) v n b hn, rrightP_f K (by omega) u m c hm, rhas_f K hK u m c v n hm hn, rlast_f K (by omega) v n b hn]
  simp only [bsome, tup3]
  rw [rhas_f K hK u m c (lastS v n b).1 (lastS v n b).2 hm (lastS_lt v n b)]
  cases h1 : rightP v n b
  · rfl
  · cases h2 : rightP u m c
    · rfl
    · rw [if_pos rfl, if_pos rfl]
      have e : lastS v n b = (v, n + (2 ^ fr v b - 1)) := by unfold lastS; rw [if_pos h1]
      rw [e]
      simp only [Bool.true_and, bsome]
      cases h3 : hasS u m c v n
      · simp
      · rw [if_pos rfl]
        obtain ⟨_, _, rfl, h4⟩ := hasS_right h3
        simp only [Bool.and_true, Option.some.injEq]
        rw [Bool.eq_iff_iff, decide_eq_true_iff]
        constructor
        · intro hl; exact ends_bits h3 hl h1
        · intro hcb
          refine hasS_mk h2 (rightB_iff.2 (last_lt h1)) ?_
          rw [← h4]
          obtain ⟨p1, p2, p3, p4⟩ := rightP_iff.1 h1
          obtain ⟨q1, q2, q3, q4⟩ := rightP_iff.1 h2
          have hfr : fr v b ≤ fr v c := by unfold fr; omega
          refine div_mono (a := 0) (f := fr v b) ?_ hfr
          have hpos := Nat.two_pow_pos (fr v b)
          obtain ⟨q, rfl⟩ := Nat.dvd_of_mod_eq_zero p4
          rw [Nat.mul_add_div hpos, Nat.div_eq_of_lt (by omega), Nat.mul_div_cancel_left _ hpos, Nat.add_zero]
end Go.Proofs.YtgdgklibilddgaaGreatDoor

namespace Go.Proofs.YtgdgklibilddgaaGreatDoor
open Go.RowKit Go.Proofs.YtgdgklibilddgaaGreatDoorW.PrintWords Go.Proofs.YtgdgklibilddgaaGreatDoor.PPr

theorem shl_hl {n : Nat} {k : Int} (hn : n < 340282366920938463463374607431768211456) (hk : -9223372036854775808 ≤ k) : num_Shl.f (hi n) (lo n) k = some (hi (shlN n k), lo (shlN n k)) := by
  unfold num_Shl.f; rw [okW_hl, decide_eq_true hk, num_hi_lo hn]; rfl
end Go.Proofs.YtgdgklibilddgaaGreatDoor

namespace Go.Proofs.YtgdgklibilddgaaGreatDoor.PPr
open Go.RowKit Go.Proofs.YtgdgklibilddgaaGreatDoorW.PrintWords Go.Proofs.YtgdgklibilddgaaGreatDoorW.PrintLast Go.Proofs.YtgdgklibilddgaaGreatDoorW.PrintMore
attribute [local go_sem] max2_int min2_int max_two min_two max_three min_three max_four min_four   -- for this text's walks alone

end Go.Proofs.YtgdgklibilddgaaGreatDoor.PPr

namespace Go.Proofs.YtgdgklibilddgaaGreatDoor.PPr
open Go.RowKit Go.Proofs.YtgdgklibilddgaaGreatDoorW.PrintWords Go.Proofs.YtgdgklibilddgaaGreatDoorW.PrintLast Go.Proofs.YtgdgklibilddgaaGreatDoorW.PrintMore
attribute [local go_sem] max2_int min2_int max_two min_two max_three min_three max_four min_four   -- for this text's walks alone

end Go.Proofs.YtgdgklibilddgaaGreatDoor.PPr

namespace Go.Proofs.YtgdgklibilddgaaGreatDoor.PPr
open Go.RowKit Go.Proofs.YtgdgklibilddgaaGreatDoorW.PrintWords Go.Proofs.YtgdgklibilddgaaGreatDoorW.PrintLast Go.Proofs.YtgdgklibilddgaaGreatDoorW.PrintMore
attribute [local go_sem] max2_int min2_int max_two min_two max_three min_three max_four min_four   -- for this text's walks alone

attribute [local go_sem high] eqA38
end Go.Proofs.YtgdgklibilddgaaGreatDoor.PPr

namespace Go.Proofs.YtgdgklibilddgaaGreatDoor
open Go.RowKit Go.Proofs.YtgdgklibilddgaaGreatDoorW.PrintWords Go.Proofs.YtgdgklibilddgaaGreatDoorW.PrintMore Go.Proofs.YtgdgklibilddgaaGreatDoor.PPr

theorem len_hl {n : Nat} (hn : n < 340282366920938463463374607431768211456) : num_Len.f (hi n) (lo n) = some ((lenN n : Nat) : Int) := by
  unfold num_Len.f; rw [if_pos (okW_hl n), num_hi_lo hn]
theorem within_mk {v : Bool} {n : Nat} {b : Int} {m : Nat} {c : Int} (h1 : rightP v n b = true) (h2 : rightP v m c = true) (h3 : c ≤ b) (h4 : n / 2 ^ fr v c = m / 2 ^ fr v c) : withinS v n b v m c = true := by
  unfold withinS
  rw [h1, h2, decide_eq_true h3, hasS_mk h2 (rightP_B h1) h4]; rfl
end Go.Proofs.YtgdgklibilddgaaGreatDoor

namespace Go.Proofs.YtgdgklibilddgaaGreatDoor
open Go.RowKit Go.Proofs.YtgdgklibilddgaaGreatDoorW.PrintWords Go.Proofs.YtgdgklibilddgaaGreatDoor.PPr

def cutsS (v : Bool) (n : Nat) (b bits : Int) : Bool := rightP v n b && (decide (b ≤ bits) && decide (bits ≤ (widthN v : Int)))
theorem cutsS_iff {v : Bool} {n : Nat} {b bits : Int} : cutsS v n b bits = true ↔ rightP v n b = true ∧ b ≤ bits ∧ bits ≤ (widthN v : Int) := by
  unfold cutsS; simp
theorem cuts_f (v : Bool) (n : Nat) (b bits : Int) (hn : n < 340282366920938463463374607431768211456) : carve_cuts.f v (hi n) (lo n) b bits = some (cutsS v n b bits) := by
  unfold carve_cuts.f cutsS
  rw [pright_hl v b hn]
  simp only [bsome]
  cases rightP v n b
  · rfl
  · rw [if_pos rfl]
    by_cases h : b ≤ bits
    · rw [if_pos h, awidth_hl, decide_eq_true h]
      simp only [bsome, Bool.true_and]
    · rw [if_neg h, decide_eq_false h]; rfl
def blockS (v : Bool) (n : Nat) (b bits : Int) (i : Nat) : Bool × Nat × Int × Int :=
  if cutsS v n b bits = true then (if (lenN i : Int) ≤ bits - b then (v, n + i * 2 ^ (widthN v - bits.toNat), bits, 0) else (false, 0, 0, 12)) else (false, 0, 0, 1)
/-- the numbers that are behind a block's -/
theorem block_room {v : Bool} {n : Nat} {b bits : Int} {i : Nat} (h : cutsS v n b bits = true) (hi' : (lenN i : Int) ≤ bits - b) :
    i < 2 ^ (bits - b).toNat ∧ i * 2 ^ (widthN v - bits.toNat) < 2 ^ fr v b ∧ n + i * 2 ^ (widthN v - bits.toNat) < 2 ^ widthN v ∧ fr v b = (bits - b).toNat + (widthN v - bits.toNat) := by
  obtain ⟨h1, h2, h3⟩ := cutsS_iff.1 h
  obtain ⟨p1, p2, p3, p4⟩ := rightP_iff.1 h1
  have hf : fr v b = (bits - b).toNat + (widthN v - bits.toNat) := by unfold fr; omega
  have hl : i < 2 ^ (bits - b).toNat := (lenN_iff _ _).1 (by omega)
  have hp := Nat.two_pow_pos (widthN v - bits.toNat)
  have h4 : i * 2 ^ (widthN v - bits.toNat) < 2 ^ fr v b := by
    rw [hf, Nat.pow_add]; exact Nat.mul_lt_mul_of_pos_right hl hp
  have := last_lt h1
  exact ⟨hl, h4, by omega, hf⟩
theorem shlN_eq {i k : Nat} (hk : k < 128) (h : i * 2 ^ k < 340282366920938463463374607431768211456) : shlN i (k : Int) = i * 2 ^ k := by
  unfold shlN
  rw [if_neg (by omega), if_neg (by omega), Int.toNat_natCast, Nat.mod_eq_of_lt h]
theorem block_f (v : Bool) (n : Nat) (b bits : Int) (i : Nat) (hn : n < 340282366920938463463374607431768211456) (hi' : i < 340282366920938463463374607431768211456) : carve_Block.f v (hi n) (lo n) b bits (hi i) (lo i) = some (tup5 (blockS v n b bits i)) := by
  unfold carve_Block.f blockS
  rw [cuts_f v n b bits hn]
  simp only [bsome]
  cases h : cutsS v n b bits
  · simp [tup5, hi00, lo00]
  · obtain ⟨h1, h2, h3⟩ := cutsS_iff.1 h
    obtain ⟨p1, p2, p3, p4⟩ := rightP_iff.1 h1
    have hw := widthN_le v
    rw [if_pos rfl, if_pos rfl, len_hl hi']
    simp only [bsome]
    rw [w64 (by omega) (by omega)]
    by_cases hl : (lenN i : Int) ≤ bits - b
    · rw [if_neg (by omega), if_pos hl, awidth_hl]
      simp only [bsome]
      obtain ⟨r1, r2, r3, r4⟩ := block_room h hl
      have r5 : i * 2 ^ (widthN v - bits.toNat) < 340282366920938463463374607431768211456 := by
        have := Nat.lt_of_lt_of_le r3 (pow_w v); omega
      rw [w64 (by omega) (by omega), show ((widthN v : Nat) : Int) - bits = ((widthN v - bits.toNat : Nat) : Int) by omega, shl_hl hi' (by omega)]
      simp only [bsome]
      have e : shlN i ((widthN v - bits.toNat : Nat) : Int) = i * 2 ^ (widthN v - bits.toNat) := by
        by_cases hk : widthN v - bits.toNat < 128
        · exact shlN_eq hk r5
        · have hb0 : bits = 0 := by omega
          have : (bits - b).toNat = 0 := by omega
          rw [this] at r1
          have : i = 0 := by simpa using r1
          subst this
          unfold shlN; split <;> simp
      rw [e, or_hl hn r5, or_small p4 r2]
      simp only [bsome, tup5]
    · rw [if_pos (by omega), if_neg hl]; simp [tup5, hi00, lo00]
end Go.Proofs.YtgdgklibilddgaaGreatDoor

namespace Go.Proofs.YtgdgklibilddgaaGreatDoor
open Go.RowKit Go.Proofs.YtgdgklibilddgaaGreatDoorW.PrintWords Go.Proofs.YtgdgklibilddgaaGreatDoor.PPr

def tup4 (x : Bool × Nat × Int × Int) : Bool × Int × Int × Int := (x.1, hi x.2.1, lo x.2.1, x.2.2.2)
theorem host_f (v : Bool) (n : Nat) (b : Int) (i : Nat) (hn : n < 340282366920938463463374607431768211456) (hi' : i < 340282366920938463463374607431768211456) : carve_Host.f v (hi n) (lo n) b (hi i) (lo i) = some (tup4 (blockS v n b (widthN v) i)) := by
  unfold carve_Host.f
  rw [awidth_hl]
  simp only [bsome]
  rw [block_f v n b _ i hn hi']
  simp only [bsome]
  rfl
theorem awake04_f : platbooklaw04_awake.f 1000 = some true := by decide +kernel
end Go.Proofs.YtgdgklibilddgaaGreatDoor

namespace Go.Proofs.YtgdgklibilddgaaGreatDoor
open Go.RowKit Go.Proofs.YtgdgklibilddgaaGreatDoorW.PrintWords Go.Proofs.YtgdgklibilddgaaGreatDoor.PPr

theorem shr_hl {n : Nat} {k : Int} (hn : n < 340282366920938463463374607431768211456) (hk : -9223372036854775808 ≤ k) : num_Shr.f (hi n) (lo n) k = some (hi (shrN n k), lo (shrN n k)) := by
  unfold num_Shr.f; rw [okW_hl, decide_eq_true hk, num_hi_lo hn]; rfl
theorem shrN_all {n : Nat} (k : Nat) (hn : n < 340282366920938463463374607431768211456) : shrN n (k : Int) = n / 2 ^ k := by
  by_cases h : k < 128
  · exact shrN_nat h hn
  · unfold shrN shlN
    rw [if_pos (by omega)]
    symm
    apply Nat.div_eq_of_lt
    refine Nat.lt_of_lt_of_le hn ?_
    have := Nat.pow_le_pow_right (n := 2) (by omega) (show 128 ≤ k by omega)
    rw [show (2 : Nat) ^ 128 = 340282366920938463463374607431768211456 by decide] at this
    exact this
theorem ones_hl (k : Int) : num_Ones.f k = some (hi (onesN k), lo (onesN k)) := rfl
theorem below_f (v : Bool) (n : Nat) (b : Int) (u : Bool) (x last : Nat) (h0 : 0 ≤ b) (h1 : b ≤ (widthN u : Int)) (hl : last ≤ 1000) (hx : x < 340282366920938463463374607431768211456) :
    carve_below.f v (hi n) (lo n) b u (hi x) (lo x) (last : Int) = some (hi (x % 2 ^ fr u b / 2 ^ last), lo (x % 2 ^ fr u b / 2 ^ last)) := by
  unfold carve_below.f
  have hw := widthN_le u
  rw [awidth_hl]
  simp only [bsome]
  rw [w64 (by omega) (by omega), ones_hl, ones_val h0 h1]
  simp only [bsome]
  rw [and_hl hx (fr_lt u b), and_ones]
  simp only [bsome]
  have hm : x % 2 ^ fr u b < 340282366920938463463374607431768211456 := Nat.lt_of_le_of_lt (Nat.mod_le _ _) hx
  rw [shr_hl hm (by omega), shrN_all last hm]
  simp only [bsome]
def numberS (v : Bool) (n : Nat) (b : Int) (u : Bool) (x : Nat) : Nat × Int := if rightP v n b = true then (if hasS v n b u x = true then (x % 2 ^ fr v b, 0) else (0, 12)) else (0, 1)
def tupM (x : Nat × Int) : Int × Int × Int := (hi x.1, lo x.1, x.2)
theorem number_f (K : Nat) (hK : 1 ≤ K) (v : Bool) (n : Nat) (b : Int) (u : Bool) (x : Nat) (hn : n < 340282366920938463463374607431768211456) (hx : x < 340282366920938463463374607431768211456) : carve_Number.f K v (hi n) (lo n) b u (hi x) (lo x) = some (tupM (numberS v n b u x)) := by
  unfold carve_Number.f numberS
  rw [pright_hl v b hn, has_f K hK v n b u x hn hx]
  simp only [bsome]
  cases h : rightP v n b
  · simp [tupM, hi00, lo00]
  · rw [if_pos rfl, if_pos rfl]
    cases hh : hasS v n b u x
    · simp [tupM, hi00, lo00]
    · obtain ⟨_, _, rfl, _⟩ := hasS_right hh
      obtain ⟨p1, p2, p3, p4⟩ := rightP_iff.1 h
      rw [if_pos rfl, if_pos rfl, show (0 : Int) = ((0 : Nat) : Int) from rfl, below_f u n b u x 0 p2 p3 (by omega) hx]
      simp only [bsome, tupM, Nat.pow_zero, Nat.div_one]
theorem pnum_true (k : Nat) (L : List Int) (hl : L.length ≤ 128) (hb : ∀ b ∈ L, b = 0 ∨ b = 1) : platbookref04_Num.f (k + 300) L = some (hi (valL L.reverse), lo (valL L.reverse)) := by
  unfold platbookref04_Num.f
  rw [paddr_f k true L hl hb]
  simp only [bsome]
theorem rowT_bit (n w : Nat) : ∀ b ∈ rowT n w, b = 0 ∨ b = 1 := by
  intro b hb; unfold rowT at hb; rw [List.mem_reverse] at hb; exact rowL_bit _ _ b hb
theorem row_behind {x w b : Nat} (hb : b ≤ w) : ((rowT x w).drop b).reverse = rowL x (w - b) := by
  have e := rowL_add (w - b) b x
  rw [show w - b + b = w by omega] at e
  unfold rowT
  rw [e, List.reverse_append, List.drop_left' (by rw [List.length_reverse, rowL_len]), List.reverse_reverse]
theorem row_mid {x w b c : Nat} (hb : b ≤ c) (hc : c ≤ w) : (((rowT x w).take c).drop b).reverse = rowL (x / 2 ^ (w - c)) (c - b) := by
  have e := rowL_add (w - c) ((c - b) + b) x
  rw [show w - c + (c - b + b) = w by omega] at e
  unfold rowT
  rw [e, List.reverse_append, List.take_left' (by rw [List.length_reverse, rowL_len]; omega), rowL_add, List.reverse_append, List.drop_left' (by rw [List.length_reverse, rowL_len]), List.reverse_reverse]
theorem rnumber_f (K : Nat) (hK : 900 ≤ K) (v : Bool) (n : Nat) (b : Int) (u : Bool) (x : Nat) (hn : n < 340282366920938463463374607431768211456) (hx : x < 340282366920938463463374607431768211456) : platbookref04_Number.f K v (hi n) (lo n) b u (hi x) (lo x) = some (tupM (numberS v n b u x)) := by
  unfold platbookref04_Number.f numberS
  rw [rrightP_f K (by omega) v n b hn, rhas_f K (by omega) v n b u x hn hx]
  simp only [bsome]
  cases h : rightP v n b
  · simp [tupM, hi00, lo00]
  · rw [if_pos rfl, if_pos rfl]
    cases hh : hasS v n b u x
    · simp [tupM, hi00, lo00]
    · obtain ⟨_, _, rfl, _⟩ := hasS_right hh
      obtain ⟨p1, p2, p3, p4⟩ := rightP_iff.1 h
      have hw := widthN_le u
      obtain ⟨b0, rfl⟩ := Int.eq_ofNat_of_zero_le p2
      obtain ⟨k, rfl⟩ : ∃ k, K = k + 300 := ⟨K - 300, by omega⟩
      have hf : fr u (b0 : Int) = widthN u - b0 := by unfold fr; omega
      rw [if_pos rfl, if_pos rfl, prow_f k u x hx]
      simp only [bsome]
      rw [if_pos (by omega), if_pos (by rw [rowT_len]; omega), Int.toNat_natCast, pnum_true k _ (by rw [List.length_drop, rowT_len]; omega) (fun b hb => rowT_bit _ _ b (List.mem_of_mem_drop hb)), row_behind (by omega), valL_row, hf]
      simp only [bsome, tupM]
def indexS (v : Bool) (n : Nat) (b : Int) (u : Bool) (m : Nat) (c : Int) : Nat × Int := if rightP v n b = true ∧ rightP u m c = true then (if withinS u m c v n b = true then (m % 2 ^ fr v b / 2 ^ fr u c, 0) else (0, 12)) else (0, 1)
theorem within_ok {v : Bool} {n : Nat} {b : Int} {u : Bool} {m : Nat} {c : Int} (h : withinS u m c v n b = true) : rightP u m c = true ∧ rightP v n b = true ∧ b ≤ c ∧ u = v ∧ m / 2 ^ fr v b = n / 2 ^ fr v b := by
  unfold withinS at h
  simp only [Bool.and_eq_true, decide_eq_true_iff] at h
  obtain ⟨h1, h2, h3, h4⟩ := h
  obtain ⟨_, _, h5, h6⟩ := hasS_right h4
  exact ⟨h1, h2, h3, h5, h6⟩
theorem index_f (K : Nat) (hK : 2 ≤ K) (v : Bool) (n : Nat) (b : Int) (u : Bool) (m : Nat) (c : Int) (hn : n < 340282366920938463463374607431768211456) (hm : m < 340282366920938463463374607431768211456) : carve_Index.f K v (hi n) (lo n) b u (hi m) (lo m) c = some (tupM (indexS v n b u m c)) := by
  obtain ⟨k, rfl⟩ : ∃ k, K = k + 1 := ⟨K - 1, by omega⟩
  unfold carve_Index.f indexS
  rw [pright_hl v b hn, pright_hl u c hm]
  simp only [bsome]
  cases h : rightP v n b
  · rw [if_neg (by simp), carve_Index.j0, if_pos rfl, if_neg (by simp)]; simp [tupM, hi00, lo00]
  · cases h2 : rightP u m c
    · rw [if_pos rfl, carve_Index.j0, if_pos (show (!false) = true from rfl), if_neg (by simp)]; simp [tupM, hi00, lo00]
    · rw [if_pos rfl, carve_Index.j0, if_neg (by simp), if_pos (show true = true ∧ true = true from ⟨rfl, rfl⟩), within_f k (by omega) u m c v n b hm hn]
      simp only [bsome]
      cases hw : withinS u m c v n b
      · simp [tupM, hi00, lo00]
      · obtain ⟨_, _, hbc, rfl, hd⟩ := within_ok hw
        obtain ⟨p1, p2, p3, p4⟩ := rightP_iff.1 h
        obtain ⟨q1, q2, q3, q4⟩ := rightP_iff.1 h2
        have hw2 := widthN_le u
        rw [if_pos rfl, if_pos rfl, awidth_hl]
        simp only [bsome]
        rw [w64 (by omega) (by omega), show ((widthN u : Nat) : Int) - c = ((fr u c : Nat) : Int) by unfold fr; omega, below_f u n b u m (fr u c) p2 p3 (by have := fr_le u c; omega) hm]
        simp only [bsome, tupM]
theorem rindex_f (K : Nat) (hK : 901 ≤ K) (v : Bool) (n : Nat) (b : Int) (u : Bool) (m : Nat) (c : Int) (hn : n < 340282366920938463463374607431768211456) (hm : m < 340282366920938463463374607431768211456) : platbookref04_Index.f K v (hi n) (lo n) b u (hi m) (lo m) c = some (tupM (indexS v n b u m c)) := by
  obtain ⟨k, rfl⟩ : ∃ k, K = k + 300 + 1 := ⟨K - 301, by omega⟩
  unfold platbookref04_Index.f indexS
  rw [rrightP_f _ (by omega) v n b hn, rrightP_f _ (by omega) u m c hm]
  simp only [bsome]
  cases h : rightP v n b
  · rw [if_neg (by simp), platbookref04_Index.j0, if_pos rfl, if_neg (by simp)]; simp [tupM, hi00, lo00]
  · cases h2 : rightP u m c
    · rw [if_pos rfl, platbookref04_Index.j0, if_pos (show (!false) = true from rfl), if_neg (by simp)]; simp [tupM, hi00, lo00]
    · rw [if_pos rfl, platbookref04_Index.j0, if_neg (by simp), if_pos (show true = true ∧ true = true from ⟨rfl, rfl⟩), rwithin_f _ (by omega) u m c v n b hm hn]
      simp only [bsome]
      cases hw : withinS u m c v n b
      · simp [tupM, hi00, lo00]
      · obtain ⟨_, _, hbc, rfl, hd⟩ := within_ok hw
        obtain ⟨p1, p2, p3, p4⟩ := rightP_iff.1 h
        obtain ⟨q1, q2, q3, q4⟩ := rightP_iff.1 h2
        have hw2 := widthN_le u
        obtain ⟨b0, rfl⟩ := Int.eq_ofNat_of_zero_le p2
        obtain ⟨c0, rfl⟩ := Int.eq_ofNat_of_zero_le q2
        have hfb : fr u (b0 : Int) = widthN u - b0 := by unfold fr; omega
        have hfc : fr u (c0 : Int) = widthN u - c0 := by unfold fr; omega
        rw [if_pos rfl, if_pos rfl, prow_f k u m hm]
        simp only [bsome]
        rw [if_pos (by omega), if_pos (by omega), if_pos (by rw [rowT_len]; omega), Int.toNat_natCast, Int.toNat_natCast, pnum_true k _ (by rw [List.length_drop, List.length_take, rowT_len]; omega) (fun b hb => rowT_bit _ _ b (List.mem_of_mem_take (List.mem_of_mem_drop hb))), row_mid (by omega) (by omega), valL_row, hfb, hfc]
        have e : m % 2 ^ (widthN u - b0) / 2 ^ (widthN u - c0) = m / 2 ^ (widthN u - c0) % 2 ^ (c0 - b0) := by
          rw [show widthN u - b0 = (widthN u - c0) + (c0 - b0) by omega, Nat.pow_add, Nat.mod_mul_right_div_self]
        rw [e]
        simp only [bsome, tupM]
theorem block_of_index {v : Bool} {n : Nat} {b : Int} {m : Nat} {c : Int} (h : withinS v m c v n b = true) : blockS v n b c (m % 2 ^ fr v b / 2 ^ fr v c) = (v, m, c, 0) := by
  obtain ⟨h2, h1, hbc, _, hd⟩ := within_ok h
  obtain ⟨p1, p2, p3, p4⟩ := rightP_iff.1 h1
  obtain ⟨q1, q2, q3, q4⟩ := rightP_iff.1 h2
  have hcut : cutsS v n b c = true := cutsS_iff.2 ⟨h1, hbc, q3⟩
  have hfc : fr v c = widthN v - c.toNat := rfl
  have hfb : fr v b = (c - b).toNat + fr v c := by unfold fr; omega
  have hlt : m % 2 ^ fr v b / 2 ^ fr v c < 2 ^ (c - b).toNat := by
    rw [Nat.div_lt_iff_lt_mul (Nat.two_pow_pos _), ← Nat.pow_add, ← hfb]; exact Nat.mod_lt _ (Nat.two_pow_pos _)
  have hlen := (lenN_iff _ _).2 hlt
  unfold blockS
  rw [if_pos hcut, if_pos (by omega), ← hfc]
  have e1 : m % 2 ^ fr v b / 2 ^ fr v c * 2 ^ fr v c = m % 2 ^ fr v b := by
    apply Nat.div_mul_cancel
    obtain ⟨q, hq⟩ := Nat.dvd_of_mod_eq_zero q4
    refine ⟨q % 2 ^ (c - b).toNat, ?_⟩
    rw [hq, hfb, Nat.add_comm, Nat.pow_add, Nat.mul_mod_mul_left]
  have e2 : n = 2 ^ fr v b * (m / 2 ^ fr v b) := by rw [hd]; exact (Nat.mul_div_cancel' (Nat.dvd_of_mod_eq_zero p4)).symm
  have e3 : n + m % 2 ^ fr v b = m := by
    have := Nat.div_add_mod m (2 ^ fr v b)
    omega
  rw [e1, e3]
theorem host_of_number {v : Bool} {n : Nat} {b : Int} {x : Nat} (h : hasS v n b v x = true) : blockS v n b (widthN v) (x % 2 ^ fr v b) = (v, x, (widthN v : Int), 0) := by
  obtain ⟨h1, hb, _, hd⟩ := hasS_right h
  have hr : rightP v x (widthN v) = true := rightP_iff.2 ⟨rightB_iff.1 hb, by omega, by omega, by unfold fr; rw [Int.toNat_natCast, Nat.sub_self, Nat.pow_zero]; exact Nat.mod_one _⟩
  have hw : withinS v x (widthN v) v n b = true := within_mk hr h1 (rightP_iff.1 h1).2.2.1 hd
  have := block_of_index hw
  have e : fr v (widthN v : Int) = 0 := by unfold fr; omega
  rw [e, Nat.pow_zero, Nat.div_one] at this
  exact this
theorem numberS_lt (v : Bool) (n : Nat) (b : Int) (u : Bool) (x : Nat) (hx : x < 340282366920938463463374607431768211456) : (numberS v n b u x).1 < 340282366920938463463374607431768211456 := by
  unfold numberS
  split
  · split
    · exact Nat.lt_of_le_of_lt (Nat.mod_le _ _) hx
    · decide
  · decide
theorem indexS_lt (v : Bool) (n : Nat) (b : Int) (u : Bool) (m : Nat) (c : Int) (hm : m < 340282366920938463463374607431768211456) : (indexS v n b u m c).1 < 340282366920938463463374607431768211456 := by
  unfold indexS
  split
  · split
    · exact Nat.lt_of_le_of_lt (Nat.div_le_self _ _) (Nat.lt_of_le_of_lt (Nat.mod_le _ _) hm)
    · decide
  · decide
theorem carveNumbers_f (v : Bool) (n : Nat) (b : Int) (u : Bool) (m : Nat) (c : Int) (t : Bool) (x : Nat) (hn : n < 340282366920938463463374607431768211456) (hm : m < 340282366920938463463374607431768211456) (hx : x < 340282366920938463463374607431768211456) :
    platbooklaw04_CarveNumbers.f 1000 v (hi n) (lo n) b u (hi m) (lo m) c t (hi x) (lo x) = some true := by
  unfold platbooklaw04_CarveNumbers.f
  rw [awake04_f, index_f 1000 (by omega) v n b u m c hn hm, rindex_f 1000 (by omega) v n b u m c hn hm, number_f 1000 (by omega) v n b t x hn hx, rnumber_f 1000 (by omega) v n b t x hn hx]
  simp only [bsome, if_true]
  rw [if_neg (by simp), if_neg (by simp), show ((tupM (numberS v n b t x)).2.2 != (tupM (numberS v n b t x)).2.2) = false by simp]
  -- the address of the number
  have tail : ∀ K : Nat, (if (numberS v n b t x).2 = 0 then ((carve_Host.f v (hi n) (lo n) b (hi (numberS v n b t x).1) (lo (numberS v n b t x).1)).bind fun bt => (if (bt.1 == t && ((bt.2.1 == hi x && (bt.2.2.1 == lo x)))) = true then (some (bt.2.2.2 == 0)) else (some false))) else (some true)) = some true := by
    intro _
    rw [host_f v n b _ hn (numberS_lt v n b t x hx)]
    simp only [bsome]
    unfold numberS
    cases h : rightP v n b
    · simp
    · cases hh : hasS v n b t x
      · simp
      · obtain ⟨_, _, rfl, _⟩ := hasS_right hh
        simp only [if_true]
        rw [host_of_number hh]
        simp [tup4]
  have j1 : ∀ k : Nat, platbooklaw04_CarveNumbers.j1 (k + 1) (numberS v n b t x).2 false v (hi n) (lo n) b t (hi x) (lo x) (hi (numberS v n b t x).1) (lo (numberS v n b t x).1) = some true := by
    intro k
    rw [platbooklaw04_CarveNumbers.j1, if_neg (by simp)]
    exact tail k
  simp only [tupM]
  rw [show 1000 = 999 + 1 from rfl, platbooklaw04_CarveNumbers.j0, if_neg (by simp)]
  by_cases he : (indexS v n b u m c).2 = 0
  · rw [if_pos he, block_f v n b c _ hn (indexS_lt v n b u m c hm)]
    simp only [bsome]
    have hw : withinS u m c v n b = true := by
      unfold indexS at he
      split at he
      · split at he
        · assumption
        · cases he
      · cases he
    obtain ⟨h2, h1, _, rfl, _⟩ := within_ok hw
    have hi1 : (indexS u n b u m c).1 = m % 2 ^ fr u b / 2 ^ fr u c := by unfold indexS; rw [if_pos ⟨h1, h2⟩, if_pos hw]
    rw [hi1, block_of_index hw]
    simp only [tup5]
    simp only [beq_self_eq_true, Bool.not_true, Bool.or_self, Bool.false_eq_true, if_false, bne_self_eq_false]
    exact j1 998
  · rw [if_neg he]
    exact tail 0
theorem carveNumbers_walk (v : Bool) (n : Nat) (b : Int) (u : Bool) (m : Nat) (c : Int) (t : Bool) (x : Nat) (w : World) (hn : n < 340282366920938463463374607431768211456) (_ : (Lit.int .i64 b).wf = true) (hm : m < 340282366920938463463374607431768211456) (_ : (Lit.int .i64 c).wf = true) (hx : x < 340282366920938463463374607431768211456) (hG : Glob w) :
    Calls Tryz.prog 12 #[PfxV v n b, PfxV u m c, AddrV t x] w fun e w' => e = .returned (.bool true) ∧ Below w.heap.size w w' :=
  platbooklaw04_CarveNumbers.calls 1000 v (hi n) (lo n) b u (hi m) (lo m) c t (hi x) (lo x) true w hG rfl (carveNumbers_f v n b u m c t x hn hm hx)
end Go.Proofs.YtgdgklibilddgaaGreatDoor

namespace Go.Proofs.YtgdgklibilddgaaGreatDoor
open Go.ChangeShapes Go.WideShapes Go.ChangeAt Go.RowKit

section
variable {H : Type} {enc : TypeId × Value → H} {P : Program}
theorem post_below {f : Func} {s : ChangeSpec} {apart fresh handsOn again : Bool} {W W' : World} {args : Array Value} {v : Value} {ds gs : List (DataW H)} {before pa pv : List MemPlace}
    (hW : DataW.Whole enc P f.params.toList s.vars apart W args.toList ds gs before)
    (hres : ∀ (b : Nat) (sp : Nat → Bool) (hd : Bool), DataW.TrodAll enc P W' b sp hd f.resultTypes.toList (v.resultList f.resultTypes.size) (s.fn H (ds ++ gs)).results [])
    (hargs : ∀ sp : Nat → Bool, (∀ p ∈ before, sp p.block = true) → DataW.TrodAll enc P W' 0 sp true f.params.toList args.toList (s.fn H (ds ++ gs)).args pa)
    (hvars : ∀ sp : Nat → Bool, (∀ p ∈ before, sp p.block = true) → DataW.TrodVars enc P W' sp s.vars (s.fn H (ds ++ gs)).vars pv)
    (hps : before = pa ++ pv) (hb : Below W.heap.size W W')
    (hok : ∀ (j : Nat) (t : TypeId) (r : Value), f.resultTypes[j]? = some t → (v.resultList f.resultTypes.size)[j]? = some r → Value.okWide P W' .any 0 t r) :
    s.post enc P f apart fresh handsOn again W args v W' := by
  have hlt : ∀ p ∈ before, p.block < W.heap.size := fun p hp => hW.lt p hp
  have hold : ∀ p ∈ before, (fun b => decide (b < W.heap.size)) p.block = true := fun p hp => by simpa using hlt p hp
  refine ⟨ds, gs, before, [], pa, pv, hW, hres _ _ _, hargs _ hold, hvars _ hold, World.keptBut_mono (fun p hp => ⟨hp, ?_⟩) (hb.frame (· ∈ before)), fun _ => ?_⟩
  · rw [hps, List.mem_append] at hp
    exact Or.inr hp
  · obtain ⟨_, _, _, _, _, hz, hn⟩ := hW
    refine ⟨hok, _, _, ([] ++ pa) ++ pv, ⟨[] ++ pa, pv, trodAll_append (hargs _ (fun _ _ => rfl)) (hres _ _ _), hvars _ (fun _ _ => rfl), rfl, ?_, ?_⟩, ?_⟩
    · intro b off hp
      have hin : MemPlace.cell b off ∈ before := by rw [hps]; simpa using hp
      rw [hb.frozen (hlt _ hin)]
      exact hz b off hin
    · intro ha
      have := hn ha
      rw [hps] at this
      simpa using this
    · intro p hp _
      rw [hps]
      simpa using hp
end

theorem Tryz.own : ownKnob Tryz.prog.godebug = none := by kernel_rfl
theorem u64_bd {n : Int} (h : (Lit.int .u64 n).wf = true) : 0 ≤ n ∧ n < 18446744073709551616 := by
  simp [Lit.wf, IntKind.min, IntKind.max, IntKind.bits, IntKind.signed] at h
  omega
end Go.Proofs.YtgdgklibilddgaaGreatDoor

namespace Go.Proofs.YtgdgklibilddgaaGreatDoor
open Go.RowKit

def listA : List (String × DataW Unit) := [("math/bits.deBruijn32tab", Rows.laid_math_bits_deBruijn32tab), ("math/bits.deBruijn64tab", Rows.laid_math_bits_deBruijn64tab), ("internal/strconv.uint64pow10", Rows.laid_internal_strconv_uint64pow10), ("unicode/utf8.acceptRanges", Rows.laid_unicode_utf8_acceptRanges), ("strconv.ErrRange", Rows.laid_strconv_ErrRange), ("strconv.ErrSyntax", Rows.laid_strconv_ErrSyntax), ("unicode/utf8.first", Rows.laid_unicode_utf8_first)]
theorem doorA_met (os : Os) (args : Array Value) : laidMetH Tryz.prog listA ((World.laidAll Tryz.prog os listA).forCall (fun _ _ => 0) ⟨#[], args, []⟩).memory := by
  rw [MakeChecks.laidMetH_plain _ _ _ (by kernel_rfl)]; exact laidMet_laidAll _ (by kernel_rfl) (by kernel_rfl)
def tabZ : List Int := Lib.deBruijn64tab.map Int.ofNat
theorem listA_tab : (Rows.laid_math_bits_deBruijn64tab : DataW Unit) = Lib.tabData .u8 tabZ := by kernel_rfl
theorem listA_pow : (Rows.laid_internal_strconv_uint64pow10 : DataW Unit) = Lib.tabData .u64 Lib.pow10Tab := by kernel_rfl
theorem err_star : "*" ++ "errors.errorString" = "*errors.errorString" := by decide
theorem err_name (u : TypeId) (h : Tryz.prog.typeName? 3 u = some "*errors.errorString") : u = 170 :=
  typeName_ptr_named (nm := "errors.errorString") (by rw [err_star]; kernel_rfl) (by kernel_rfl) (by decide) u (by rw [err_star]; exact h)
theorem glob_of {W : World} (h : laidMetH Tryz.prog listA W) (hs : W.ShapedOpen Tryz.prog) : Glob W := by
  rw [MakeChecks.laidMetH_plain _ _ _ (by kernel_rfl)] at h
  unfold listA at h
  have h2 := h.tail
  have h3 := h2.tail
  have h5 := h3.tail.tail
  have h6 := h5.tail
  rw [listA_tab] at h2
  rw [listA_pow] at h3
  refine ⟨?_, ?_, ?_, ?_, ?_⟩
  · exact cell_of_shapedOpen_int (g := 0) (t := 3) (zero := #[.int .i64 0]) hs (of_decide_eq_true (by kernel_rfl)) (by kernel_rfl) rfl (by kernel_rfl) (by kernel_rfl) Tryz.underlying3
  · obtain ⟨a, s, hv, _⟩ := laid_sentinel h6 (g := 1) (by kernel_rfl) (by kernel_rfl) Tryz.underlying83 err_name Tryz.underlying170 Tryz.underlying172 rfl rfl Tryz.underlying9 (by kernel_rfl) (by kernel_rfl)
    exact ⟨_, _, hv⟩
  · obtain ⟨a, s, hv, _⟩ := laid_sentinel h5 (g := 2) (by kernel_rfl) (by kernel_rfl) Tryz.underlying83 err_name Tryz.underlying170 Tryz.underlying172 rfl rfl Tryz.underlying9 (by kernel_rfl) (by kernel_rfl)
    exact ⟨_, _, hv⟩
  · exact Lib.tabIs_of_head (P := Tryz.prog) (g := 3) (t := 174) (e := 22) (n := 20) (by kernel_rfl) (by kernel_rfl) Tryz.underlying174 Tryz.underlying22 (by kernel_rfl) (by kernel_rfl) h3
  · have hT := Lib.tabIs_of_head (P := Tryz.prog) (g := 5) (t := 185) (e := 5) (n := 64) (by kernel_rfl) (by kernel_rfl) Tryz.underlying185 Tryz.underlying5 (by kernel_rfl) (by kernel_rfl) h2
    intro j hj
    have hc := hT.cell (g := 5) (by kernel_rfl) j (by unfold tabZ; rw [List.length_map, show Lib.deBruijn64tab.length = 64 by decide]; exact hj)
    rw [hc]
    have e : tabZ.getD j 0 = ((Lib.deBruijn64tab.getD j 0 : Nat) : Int) := by
      unfold tabZ
      simp only [List.getD_eq_getElem?_getD, List.getElem?_map]
      cases Lib.deBruijn64tab[j]? <;> rfl
    rw [e]
/-- the plain wrap with the row's condition and the start's shape -/
theorem lift_shaped {H : Type} {enc : TypeId × Value → H} {C : Checked} {os : Os} {f : FuncId} {fn : Func} {s : ChangeSpec} {X : World → Array Value → Prop}
    (hX : ∀ (w w' : World) (args : Array Value), w.heap = w'.heap → X w args → X w' args)
    (own : ownKnob C.prog.godebug = none) (started : os.Started) (noInit : C.prog.inits.idxOf? f = none) (hfn : C.prog.funcs[f]? = some fn)
    (witness : ∃ (w : World) (tape : Tape) (i : Input), w.os = os ∧ (w.forCall tape i).Shaped C.prog ∧ i.vars = [] ∧ Input.okWide C.prog (w.forCall tape i) .any w.heap.size f i ∧
      ((s.pre enc C.prog fn [] false (w.forCall tape i).memory i.args ∧ X (w.forCall tape i).memory i.args) ∧ sizedMet enc C.prog fn (OpenSpec.ofChange s) false (w.forCall tape i).memory i.args) ∧ ({} : Assume).holds C.prog (lone (Frame.enter C.prog f i.args .normal) [] (w.forCall tape i)))
    (contract : ∀ (W : World) (base : Nat) (args : Array Value) (ds gs : List (DataW H)) (before : List MemPlace),
      (∀ (j : Nat) t v, fn.params[j]? = some t → args[j]? = some v → Value.okWide C.prog W .any base t v) →
      DataW.Whole enc C.prog fn.params.toList s.vars false W args.toList ds gs before → X W args → W.ShapedOpen C.prog →
      Calls C.prog f args W fun e W' => ∃ v, e = .returned v ∧ s.post enc C.prog fn false true false false W args v W') :
    ReturnsInHanded {} C os f .any (fun w args => (s.pre enc C.prog fn [] false w args ∧ X w args) ∧ sizedMet enc C.prog fn (OpenSpec.ofChange s) false w args) (s.post enc C.prog fn false true false false) := by
  refine returnsInHanded_of_calls own started noInit witness ?_
  intro w tape i _ hshape _ hok hpre _
  obtain ⟨_, _, _, fn2, hfn2, _, _, _, _, hval⟩ := hok
  obtain rfl : fn2 = fn := Option.some.inj (hfn2.symm.trans hfn)
  obtain ⟨⟨⟨ds, gs, before, hw, _⟩, hx⟩, _⟩ := hpre
  refine (contract (w.forCall tape i) w.heap.size i.args ds gs before hval (DataW.Whole.of_heap (w' := w.forCall tape i) (by rfl) hw) (hX _ _ _ (by rfl) hx) hshape).mono fun e W' ⟨v, he, hp⟩ => ?_
  subst he
  exact ChangeSpec.post_blind hp
end Go.Proofs.YtgdgklibilddgaaGreatDoor

namespace Go.Proofs.YtgdgklibilddgaaGreatDoor
open Go.ChangeShapes Go.WideShapes Go.ChangeAt Go.RowKit Go.Joins

theorem Tryz.cellsNum : Tryz.prog.cellsOf 24 = 2 := by kernel_rfl

end Go.Proofs.YtgdgklibilddgaaGreatDoor

namespace Go.Proofs.YtgdgklibilddgaaGreatDoor
open Go.ChangeShapes Go.WideShapes Go.ChangeAt Go.RowKit Go.Joins

set_option maxRecDepth 100000 in
theorem Tryz.cellsAddr : Tryz.prog.cellsOf 26 = 3 := by kernel_rfl
def numD {H : Type} (n : Nat) : DataW H := .agg [.lit (.int .u64 (hi n)), .lit (.int .u64 (lo n))]
def addrD {H : Type} (v : Bool) (n : Nat) : DataW H := .agg [.lit (.bool v), numD n]
/-- the number's words are in their bounds -/
def numOk (n : Nat) : Prop := (Lit.int .u64 (hi n)).wf = true ∧ (Lit.int .u64 (lo n)).wf = true

set_option maxRecDepth 100000 in
theorem trod_bool_form {H : Type} {enc : TypeId × Value → H} {P : Program} {w : World} {base : Nat} {sp : Nat → Bool} {held : Bool} {fuel : Nat} {t : TypeId} {c : Value} {x : DataW H × List MemPlace} (ht : P.underlying t = some .bool)
    (h : DataW.trod enc P w base sp held fuel t [c] = some x) : ∃ b, c = .bool b ∧ x = (.lit (.bool b), []) := by
  cases fuel with
  | zero => simp [DataW.trod] at h
  | succ fuel =>
    simp only [DataW.trod, ht] at h
    split at h
    · rename_i e1 e2
      simp at e2
      subst e2
      exact ⟨_, rfl, (Option.some.inj h).symm⟩
    all_goals first | (rename_i e1 _; cases e1; done) | (cases h; done) | skip
    all_goals simp_all
set_option maxRecDepth 100000 in
theorem trod_num_form {H : Type} {enc : TypeId × Value → H} {W : World} {base : Nat} {sp : Nat → Bool} {held : Bool} {fuel : Nat} {c0 c1 : Value} {x : DataW H × List MemPlace}
    (h : DataW.trod enc Tryz.prog W base sp held fuel 24 [c0, c1] = some x) : ∃ n : Nat, n < 340282366920938463463374607431768211456 ∧ c0 = .int .u64 (hi n) ∧ c1 = .int .u64 (lo n) ∧ x = (numD n, []) ∧ numOk n := by
  obtain ⟨y0, y1, m, rfl, _, h0, h1⟩ := trod_struct2 Tryz.underlying24 h
  have h0' : DataW.trod enc Tryz.prog W base sp held m 22 [c0] = some y0 := h0
  have h1' : DataW.trod enc Tryz.prog W base sp held m 22 [c1] = some y1 := h1
  obtain ⟨a, e0, rfl, wa⟩ := DataW.trod_int Tryz.underlying22 h0'
  obtain ⟨b, e1, rfl, wb⟩ := DataW.trod_int Tryz.underlying22 h1'
  simp at e0 e1
  subst e0 e1
  obtain ⟨a0, a1⟩ := u64_bd wa
  obtain ⟨b0', b1⟩ := u64_bd wb
  refine ⟨num a b, num_lt a1 b1, ?_, ?_, ?_, ?_, ?_⟩
  · rw [hi_num a0 a1 b0' b1]
  · rw [lo_num b0' b1]
  · unfold numD; rw [hi_num a0 a1 b0' b1, lo_num b0' b1]; rfl
  · rw [hi_num a0 a1 b0' b1]; exact wa
  · rw [lo_num b0' b1]; exact wb
set_option maxRecDepth 100000 in
theorem trod_num_mk {H : Type} {enc : TypeId × Value → H} {W : World} {base : Nat} {sp : Nat → Bool} {held : Bool} {n : Nat} (h : numOk n) : DataW.trod enc Tryz.prog W base sp held 2 24 [.int .u64 (hi n), .int .u64 (lo n)] = some (numD n, []) := by
  obtain ⟨wa, wb⟩ := h
  have := trod_struct2_mk (enc := enc) (w := W) (base := base) (spare := sp) (held := held) (n := 1) (cs := [.int .u64 (hi n), .int .u64 (lo n)]) (y0 := (.lit (.int .u64 (hi n)), [])) (y1 := (.lit (.int .u64 (lo n)), [])) Tryz.underlying24 Tryz.cellsNum.symm
    (by show DataW.trod enc Tryz.prog W base sp held 1 22 [.int .u64 (hi n)] = _; simp [DataW.trod, Tryz.underlying22, wa])
    (by show DataW.trod enc Tryz.prog W base sp held 1 22 [.int .u64 (lo n)] = _; simp [DataW.trod, Tryz.underlying22, wb])
  exact this
set_option maxRecDepth 100000 in
theorem trod_addr_form {H : Type} {enc : TypeId × Value → H} {W : World} {base : Nat} {sp : Nat → Bool} {held : Bool} {fuel : Nat} {c0 c1 c2 : Value} {x : DataW H × List MemPlace}
    (h : DataW.trod enc Tryz.prog W base sp held fuel 26 [c0, c1, c2] = some x) : ∃ (v : Bool) (n : Nat), n < 340282366920938463463374607431768211456 ∧ c0 = .bool v ∧ c1 = .int .u64 (hi n) ∧ c2 = .int .u64 (lo n) ∧ x = (addrD v n, []) ∧ numOk n := by
  obtain ⟨y0, y1, m, rfl, _, h0, h1⟩ := trod_struct2 Tryz.underlying26 h
  have h0' : DataW.trod enc Tryz.prog W base sp held m 4 [c0] = some y0 := h0
  have h1' : DataW.trod enc Tryz.prog W base sp held m 24 [c1, c2] = some y1 := h1
  obtain ⟨v, rfl, rfl⟩ := trod_bool_form Tryz.underlying4 h0'
  obtain ⟨n, hn, rfl, rfl, rfl, ho⟩ := trod_num_form h1'
  exact ⟨v, n, hn, rfl, rfl, rfl, rfl, ho⟩
set_option maxRecDepth 100000 in
theorem trod_addr_mk {H : Type} {enc : TypeId × Value → H} {W : World} {base : Nat} {sp : Nat → Bool} {held : Bool} {v : Bool} {n : Nat} (h : numOk n) : DataW.trod enc Tryz.prog W base sp held 3 26 [.bool v, .int .u64 (hi n), .int .u64 (lo n)] = some (addrD v n, []) := by
  have := trod_struct2_mk (enc := enc) (w := W) (base := base) (spare := sp) (held := held) (n := 2) (cs := [.bool v, .int .u64 (hi n), .int .u64 (lo n)]) (y0 := (.lit (.bool v), [])) (y1 := (numD n, [])) Tryz.underlying26 Tryz.cellsAddr.symm
    (by show DataW.trod enc Tryz.prog W base sp held 2 4 [.bool v] = _; simp [DataW.trod, Tryz.underlying4])
    (trod_num_mk h)
  exact this
set_option maxRecDepth 100000 in
/-- an address as an argument -/
theorem open_addr {H : Type} {enc : TypeId × Value → H} {W : World} {base b0 : Nat} {sp : Nat → Bool} {v : Value} {d : DataW H} {p : List MemPlace} {r : Reach}
    (hv : Value.okWide Tryz.prog W r b0 26 v) (h : DataW.Trod enc Tryz.prog W base sp true 26 v d p) :
    ∃ (u : Bool) (n : Nat), n < 340282366920938463463374607431768211456 ∧ v = AddrV u n ∧ d = addrD u n ∧ p = [] ∧ numOk n := by
  obtain ⟨cs, rfl, hsz⟩ := okWide_struct Tryz.underlying26 hv
  obtain ⟨c0, c1, c2, rfl⟩ := array3 (hsz.trans Tryz.cellsAddr)
  obtain ⟨fuel, hf⟩ := h
  obtain ⟨u, n, hn, rfl, rfl, rfl, e, ho⟩ := trod_addr_form hf
  simp only [Prod.mk.injEq] at e
  exact ⟨u, n, hn, rfl, e.1, e.2, ho⟩
set_option maxRecDepth 100000 in
theorem shut_addr {H : Type} {enc : TypeId × Value → H} {W : World} {base : Nat} {sp : Nat → Bool} {u : Bool} {n : Nat} (h : numOk n) :
    DataW.Trod enc Tryz.prog W base sp true 26 (AddrV u n) (addrD u n) [] := ⟨3, trod_addr_mk h⟩
end Go.Proofs.YtgdgklibilddgaaGreatDoor

namespace Go.Proofs.YtgdgklibilddgaaGreatDoor
open Go.ChangeShapes Go.WideShapes Go.ChangeAt Go.RowKit Go.Joins

set_option maxRecDepth 100000 in
theorem Tryz.cellsPfx : Tryz.prog.cellsOf 38 = 4 := by kernel_rfl
def pfxD {H : Type} (v : Bool) (n : Nat) (b : Int) : DataW H := .agg [addrD v n, .lit (.int .i64 b)]
def pfxOk (n : Nat) (b : Int) : Prop := numOk n ∧ (Lit.int .i64 b).wf = true
set_option maxRecDepth 100000 in
theorem trod_pfx_form {H : Type} {enc : TypeId × Value → H} {W : World} {base : Nat} {sp : Nat → Bool} {held : Bool} {fuel : Nat} {c0 c1 c2 c3 : Value} {x : DataW H × List MemPlace}
    (h : DataW.trod enc Tryz.prog W base sp held fuel 38 [c0, c1, c2, c3] = some x) : ∃ (v : Bool) (n : Nat) (b : Int), n < 340282366920938463463374607431768211456 ∧ c0 = .bool v ∧ c1 = .int .u64 (hi n) ∧ c2 = .int .u64 (lo n) ∧ c3 = .int .i64 b ∧ x = (pfxD v n b, []) ∧ pfxOk n b := by
  obtain ⟨y0, y1, m, rfl, _, h0, h1⟩ := trod_struct2 Tryz.underlying38 h
  have h0' : DataW.trod enc Tryz.prog W base sp held m 26 [c0, c1, c2] = some y0 := h0
  have h1' : DataW.trod enc Tryz.prog W base sp held m 3 [c3] = some y1 := h1
  obtain ⟨v, n, hn, rfl, rfl, rfl, rfl, ho⟩ := trod_addr_form h0'
  obtain ⟨b, e1, rfl, wb⟩ := DataW.trod_int Tryz.underlying3 h1'
  simp at e1
  subst e1
  exact ⟨v, n, b, hn, rfl, rfl, rfl, rfl, rfl, ho, wb⟩
set_option maxRecDepth 100000 in
theorem trod_pfx_mk {H : Type} {enc : TypeId × Value → H} {W : World} {base : Nat} {sp : Nat → Bool} {held : Bool} {v : Bool} {n : Nat} {b : Int} (h : pfxOk n b) : DataW.trod enc Tryz.prog W base sp held 4 38 [.bool v, .int .u64 (hi n), .int .u64 (lo n), .int .i64 b] = some (pfxD v n b, []) := by
  have wb := h.2
  have := trod_struct2_mk (enc := enc) (w := W) (base := base) (spare := sp) (held := held) (n := 3) (cs := [.bool v, .int .u64 (hi n), .int .u64 (lo n), .int .i64 b]) (y0 := (addrD v n, [])) (y1 := (.lit (.int .i64 b), [])) Tryz.underlying38 Tryz.cellsPfx.symm
    (trod_addr_mk h.1)
    (by show DataW.trod enc Tryz.prog W base sp held 3 3 [.int .i64 b] = _; simp [DataW.trod, Tryz.underlying3, wb])
  exact this
theorem arr4 {α : Type} {cs : Array α} (h : cs.size = 4) : ∃ c0 c1 c2 c3, cs = #[c0, c1, c2, c3] := by
  rcases cs with ⟨l⟩
  match l, h with
  | [a, b, c, d], _ => exact ⟨a, b, c, d, rfl⟩
set_option maxRecDepth 100000 in
/-- a prefix as an argument -/
theorem open_pfx {H : Type} {enc : TypeId × Value → H} {W : World} {base b0 : Nat} {sp : Nat → Bool} {v : Value} {d : DataW H} {p : List MemPlace} {r : Reach}
    (hv : Value.okWide Tryz.prog W r b0 38 v) (h : DataW.Trod enc Tryz.prog W base sp true 38 v d p) :
    ∃ (u : Bool) (n : Nat) (b : Int), n < 340282366920938463463374607431768211456 ∧ (Lit.int .i64 b).wf = true ∧ v = PfxV u n b ∧ d = pfxD u n b ∧ p = [] ∧ pfxOk n b := by
  obtain ⟨cs, rfl, hsz⟩ := okWide_struct Tryz.underlying38 hv
  obtain ⟨c0, c1, c2, c3, rfl⟩ := arr4 (hsz.trans Tryz.cellsPfx)
  obtain ⟨fuel, hf⟩ := h
  obtain ⟨u, n, b, hn, rfl, rfl, rfl, rfl, e, ho⟩ := trod_pfx_form hf
  simp only [Prod.mk.injEq] at e
  exact ⟨u, n, b, hn, ho.2, rfl, e.1, e.2, ho⟩
set_option maxRecDepth 100000 in
theorem shut_pfx {H : Type} {enc : TypeId × Value → H} {W : World} {base : Nat} {sp : Nat → Bool} {u : Bool} {n : Nat} {b : Int} (h : pfxOk n b) :
    DataW.Trod enc Tryz.prog W base sp true 38 (PfxV u n b) (pfxD u n b) [] := ⟨4, trod_pfx_mk h⟩
end Go.Proofs.YtgdgklibilddgaaGreatDoor

namespace Go.Proofs.YtgdgklibilddgaaGreatDoor
open Go.ChangeShapes Go.WideShapes Go.ChangeAt Go.RowKit
open Go.ChangeMaps (open_string shut_string)

set_option maxRecDepth 100000 in
theorem carveNumbers_lifted (os : Os) (started : os.Started) (H : Type) (enc : TypeId × Value → H) :
    ReturnsInHanded {} Tryz.checked os 12 .any (fun w args => (Rows.carveNumbersSpec.pre enc Tryz.prog Tryz.f12 [] false w args ∧ laidMetH Tryz.prog listA w) ∧ sizedMet enc Tryz.prog Tryz.f12 (OpenSpec.ofChange Rows.carveNumbersSpec) false w args)
      (Rows.carveNumbersSpec.post enc Tryz.prog Tryz.f12 false true false false) := by
  refine lift_shaped (C := Tryz.checked) (X := fun w _ => laidMetH Tryz.prog listA w) (fun _ _ _ hh h => h.of_heap hh) Tryz.own started (by kernel_rfl) Tryz.func12
    (ChangeSpec.witness_shaped (enc := enc) (C := Tryz.checked) (os := os) (X := fun w _ => laidMetH Tryz.prog listA w) false (World.laidAll Tryz.prog os listA) #[.agg #[.bool false, .int .u64 0, .int .u64 0, .int .i64 0], .agg #[.bool false, .int .u64 0, .int .u64 0, .int .i64 0], .agg #[.bool false, .int .u64 0, .int .u64 0]] 8 (World.laidAll_os _ _ _) (World.shaped_of_ZipB (by kernel_rfl) (by kernel_rfl)) (by kernel_rfl) (by kernel_rfl) (by kernel_rfl) (doorA_met os _)) ?_
  intro W base args ds gs before hval0 hW hL hSh
  have hval : ∀ (j : Nat) t v, Tryz.f12.params[j]? = some t → args[j]? = some v → Value.okWide Tryz.prog W .any base t v := hval0
  have hW' := hW
  obtain ⟨p, q, hA0, hV, rfl, _, _⟩ := hW
  have hA : DataW.TrodAll enc Tryz.prog W 0 (fun _ => true) true Tryz.f12.params.toList args.toList ds p := hA0
  rw [Tryz.params12] at hA hval
  obtain ⟨v0, v1, v2, d0, d1, d2, p0, p1, p2, rfl, rfl, rfl, h0, h1, h2⟩ := trodAll_three hA
  obtain ⟨rfl, rfl⟩ := trodVars_none hV
  obtain ⟨u0, x0, b0, hx0, hb0, rfl, rfl, rfl, ho0⟩ := open_pfx (hval 0 38 v0 rfl rfl) h0
  obtain ⟨u1, x1, b1, hx1, hb1, rfl, rfl, rfl, ho1⟩ := open_pfx (hval 1 38 v1 rfl rfl) h1
  obtain ⟨u2, x2, hx2, rfl, rfl, rfl, ho2⟩ := open_addr (hval 2 26 v2 rfl rfl) h2
  clear hA0 hval0
  simp only [List.append_nil] at hW'
  refine (carveNumbers_walk u0 x0 b0 u1 x1 b1 u2 x2 W hx0 hb0 hx1 hb1 hx2 (glob_of hL hSh)).mono fun e W' ⟨he, hw⟩ => ?_
  subst he
  exact ⟨_, rfl, post_below (pa := []) (pv := []) hW' (fun _ _ _ => trodAll_mk1 (shut_bool Tryz.underlying4 _)) (fun sp _ => trodAll_mk3 (shut_pfx ho0) (shut_pfx ho1) (shut_addr ho2)) (fun _ _ => rfl) rfl
    hw (ok_one (by kernel_rfl) rfl (okWide_bool_mk Tryz.underlying4 _))⟩

theorem carveNumbers_row : Rows.CarveNumbersSaid :=
  OpenClaim.holds_of_wide 12 Tryz.f12 rfl rfl rfl rfl rfl rfl rfl ⟨rfl, rfl, rfl, rfl, rfl⟩ rfl rfl rfl rfl rfl (by kernel_rfl) Tryz.func12 (by kernel_rfl)
    (of_decide_eq_true (by kernel_rfl)) (by unfold Func.isWrapper; first | (rw [if_pos (by decide +kernel)]; kernel_rfl) | (rw [if_neg (by decide +kernel)]; exact ⟨rfl, rfl⟩))
    (fun os started H enc _ => carveNumbers_lifted os started H enc)

theorem carveNumbers_card : Rows.CarveNumbersCardSaid :=
  Claim7.holds_tied_plain_at .later [] [.data, .data, .data, .data, .sentinel, .sentinel, .pinned] true Rows.carveNumbersCard.stood.harness true
    carveNumbers_row (fun _ h => by cases h) (by kernel_rfl) (fun _ h => by cases h) carveNumbers_row_tie rfl ⟨rfl, rfl⟩ (by kernel_rfl) rfl
    (fun f fn hf hfn => by
      obtain rfl : f = 12 := Option.some.inj ((show Tryz.prog.funcNamed "platbook/platbooklaw04.CarveNumbers" = some 12 by kernel_rfl).symm.trans hf) |>.symm
      obtain rfl : fn = Tryz.f12 := (Option.some.inj (Tryz.func12.symm.trans hfn)).symm
      exact ⟨by kernel_rfl, fun j t ht => by
        rw [Tryz.params12] at ht
        have hm : t ∈ [38, 38, 26] := by simpa using Array.mem_of_getElem? ht
        have hall : ([38, 38, 26].all fun u => !Tryz.prog.wantsStandIn u) = true := by kernel_rfl
        exact (show Tryz.prog.wantsStandIn t = false by simpa using List.all_eq_true.1 hall t hm)⟩)
    (by kernel_rfl)
end Go.Proofs.YtgdgklibilddgaaGreatDoor

#print axioms Go.Proofs.YtgdgklibilddgaaGreatDoor.carveNumbers_card
