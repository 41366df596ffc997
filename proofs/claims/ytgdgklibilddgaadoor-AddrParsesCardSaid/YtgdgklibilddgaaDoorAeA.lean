/- Addresses: the walk of the reference's reading of four decimal numbers. -/
import Derived.Test.YtgdgklibilddgaaDoorAdZ
namespace Go.Proofs.YtgdgklibilddgaaDoor
open Go.RowKit

set_option maxRecDepth 100000 in
set_option maxHeartbeats 3200000 in
theorem rfour_c (s : ByteArray) (w : World) (hs : s.size ≤ 1000000) :
    Calls Tryd.prog 38 #[.string s] w fun e w' => FourE (refFour none [] (bts s)) w e w' ∧ Below w.heap.size w w' := by
  obtain ⟨i0, hi0, hz0, hz1, hz2⟩ := info_parts info_u8
  have hst : FourAt s (refFour none [] (bts s)) 0 none [] := ⟨by simp, fun m h => by simp at h, .inl ⟨by omega, rfl⟩⟩
  generalize refFour none [] (bts s) = R at *
  go_enter Tryd.func38, Tryd.ntmps38
  go_wp2_with fail
  have hown : (w.alloc (.cells #[] 5)).ownsRow w.heap.size 5 1 (.slice (some ⟨w.heap.size, 0, none⟩) 0 0) 0 [] := own_empty w _ _ (Nat.le_refl _)
  go_loopw [4, 5, 6] (fun vo vn vi wr => ∃ (k : Nat) (n : Option Nat) (out : List Nat), vi = .int .i64 k ∧ vn = .int .i64 (nI n) ∧ FourAt s R k n out ∧ wr.ownsRow w.heap.size 5 1 vo out.length (bytesV (ints out)) ∧ Below w.heap.size w wr) (fun _ _ i _ => s.size + 1 - (intOf i).toNat)
  case atStart => exact ⟨0, none, [], rfl, rfl, hst, hown, (by repeat (first | (with_reducible exact Below.refl _ _) | (with_reducible assumption) | (with_reducible refine bl_alloc ?_ _) | (with_reducible refine bl_drew ?_) | (with_reducible refine bl_drewN ?_ _) | (with_reducible refine bl_set ?_ (by first | (simp; done) | (simp; omega)) _) | (with_reducible refine bl_trans ?_ ‹_›)))⟩
  case round =>
    clear hown hst
    obtain ⟨k, n, out, rfl, rfl, hat, hown, hbel⟩ := hrel
    obtain ⟨sa, sc, rfl⟩ := own_slice hown
    have hsz := hbel.size
    have ho4 := hat.1
    have hmb0 := hat.2.1
    by_cases hk : k ≤ s.size
    · have hkI : (k : Int) ≤ s.size := by omega
      rcases hat.step hk with ⟨rfl, hin⟩ | ⟨hl, h46, hin⟩ | ⟨hl, h46, hin⟩
      · clear hat
        have e1 : (((s.size : Nat) : Int) == ((s.size : Nat) : Int)) = true := by simp
        rcases hin with ⟨rfl, hR⟩ | ⟨m, rfl, hm, ⟨h4, hR⟩ | ⟨h4, hnx⟩⟩
        · have hn1 : nI none = -1 := rfl
          rw [hn1]
          have HRR := Lib.hid hR
          clear hR hn1
          go_wp2_with fail
          go_ret2
          exact ⟨.inl ⟨HRR.out, _, rfl⟩, hbel⟩
        · have hn1 : nI (some m) = (m : Int) := rfl
          rw [hn1]
          have hm0 : ¬ (m : Int) < 0 := by omega
          have h4' : ((out.length : Int) == 4) = true := by simp; omega
          have HRR := Lib.hid hR
          clear hR hn1 h4
          generalize out.length = ol at *
          go_wp2_with fail
          go_ret2
          exact ⟨.inl ⟨HRR.out, _, rfl⟩, hbel⟩
        · have hn1 : nI (some m) = (m : Int) := rfl
          rw [hn1]
          have hm0 : ¬ (m : Int) < 0 := by omega
          have h4' : ((out.length : Int) == 4) = false := by simp; omega
          have hmu : IntKind.u8.wrap (m : Int) = m := by show (m : Int) % 256 = m; omega
          have HNX := Lib.hid hnx
          have HOL : Hid (bytesV (ints out) ++ [.int .u8 (m : Int)] = bytesV (ints (out ++ [m]))) := Lib.hid (by rw [ints_snoc, bytesV_snoc])
          have hol : (out ++ [m]).length = out.length + 1 := by simp
          have HLN := Lib.hid hol
          clear hnx hn1 hol
          generalize out.length = ol at *
          go_wp2_with (at_builtin; refine wpList_append_own _ rfl _ _ 34 rfl w.heap.size 5 i0 (.int .u8 0) 1 1 Tryd.underlying34 hi0 hz0 hz1 hz2 rfl (by decide) _ _ _ rfl (hown.alloc _) ⟨wr.heap.size, 0, none⟩ 1 1 [.int .u8 (m : Int)] rfl rfl ?z1_1 ?z1_2 ?z1_3 ?z1_4 ?z1_5 ?_)
          (try case z1_1 => exact cell_list _ _ _)
          (try case z1_2 => (first | exact one_cell_k _ _ | rfl | (intro u hu; simp at hu; (try rcases hu with rfl | rfl) <;> (try subst hu) <;> rfl)))
          case z1_3 => (first | (simp only [maxLen]; omega) | omega)
          (try case z1_4 => omega)
          (try case z1_5 => (first | omega | (simp; omega)))
          (try case z1_2 => (first | exact one_cell_k _ _ | rfl | (intro u hu; simp at hu; (try rcases hu with rfl | rfl) <;> (try subst hu) <;> rfl)))
          intro v' wa hown' hgrow _
          have hbel1 := below_own hbel hown (by first | exact Nat.le_refl _ | omega) hgrow
          go_wp2_with fail
          go_roundw
          case rel => exact ⟨s.size + 1, none, out ++ [m], by go_num, rfl, HNX.out, by rw [HLN.out, ← HOL.out]; exact hown', hbel1⟩
          case measure => simp [intOf] <;> omega
      · clear hat
        have e1 : ((k : Int) == (s.size : Int)) = false := by simp; omega
        have hlI : (k : Int) < s.size := by omega
        rcases hin with ⟨rfl, hR⟩ | ⟨m, rfl, hm, ⟨h4, hR⟩ | ⟨h4, hnx⟩⟩
        · have hn1 : nI none = -1 := rfl
          rw [hn1]
          have HRR := Lib.hid hR
          clear hR hn1
          go_wp2_with fail
          go_ret2
          exact ⟨.inl ⟨HRR.out, _, rfl⟩, hbel⟩
        · have hn1 : nI (some m) = (m : Int) := rfl
          rw [hn1]
          have hm0 : ¬ (m : Int) < 0 := by omega
          have h4' : ((out.length : Int) == 4) = true := by simp; omega
          have HRR := Lib.hid hR
          clear hR hn1 h4
          generalize out.length = ol at *
          go_wp2_with fail
          go_ret2
          exact ⟨.inl ⟨HRR.out, _, rfl⟩, hbel⟩
        · have hn1 : nI (some m) = (m : Int) := rfl
          rw [hn1]
          have hm0 : ¬ (m : Int) < 0 := by omega
          have h4' : ((out.length : Int) == 4) = false := by simp; omega
          have hmu : IntKind.u8.wrap (m : Int) = m := by show (m : Int) % 256 = m; omega
          have HNX := Lib.hid hnx
          have HOL : Hid (bytesV (ints out) ++ [.int .u8 (m : Int)] = bytesV (ints (out ++ [m]))) := Lib.hid (by rw [ints_snoc, bytesV_snoc])
          have hol : (out ++ [m]).length = out.length + 1 := by simp
          have HLN := Lib.hid hol
          clear hnx hn1 hol
          generalize out.length = ol at *
          go_wp2_with (at_builtin; refine wpList_append_own _ rfl _ _ 34 rfl w.heap.size 5 i0 (.int .u8 0) 1 1 Tryd.underlying34 hi0 hz0 hz1 hz2 rfl (by decide) _ _ _ rfl (hown.alloc _) ⟨wr.heap.size, 0, none⟩ 1 1 [.int .u8 (m : Int)] rfl rfl ?z2_1 ?z2_2 ?z2_3 ?z2_4 ?z2_5 ?_)
          (try case z2_1 => exact cell_list _ _ _)
          (try case z2_2 => (first | exact one_cell_k _ _ | rfl | (intro u hu; simp at hu; (try rcases hu with rfl | rfl) <;> (try subst hu) <;> rfl)))
          case z2_3 => (first | (simp only [maxLen]; omega) | omega)
          (try case z2_4 => omega)
          (try case z2_5 => (first | omega | (simp; omega)))
          (try case z2_2 => (first | exact one_cell_k _ _ | rfl | (intro u hu; simp at hu; (try rcases hu with rfl | rfl) <;> (try subst hu) <;> rfl)))
          intro v' wa hown' hgrow _
          have hbel1 := below_own hbel hown (by first | exact Nat.le_refl _ | omega) hgrow
          go_wp2_with fail
          go_roundw
          case rel => exact ⟨k + 1, none, out ++ [m], by go_num, rfl, HNX.out, by rw [HLN.out, ← HOL.out]; exact hown', hbel1⟩
          case measure => simp [intOf] <;> omega
      · clear hat
        have e1 : ((k : Int) == (s.size : Int)) = false := by simp; omega
        have hlI : (k : Int) < s.size := by omega
        have hd6 : (s[k]'hl).toNat < 256 := (s[k]'hl).toNat_lt
        generalize hdd : (s[k]'hl).toNat = d at *
        have e46 : ((d : Int) == 46) = false := by simp; omega
        clear h46
        rcases hin with ⟨hR, h1 | ⟨h1, h2⟩ | ⟨h1, h2, rfl⟩⟩ | ⟨h1, h2, hn0, hin⟩
        · have g1 : (d : Int) < 48 := by omega
          have HRR := Lib.hid hR
          clear hR
          go_wp2_with fail
          go_ret2
          exact ⟨.inl ⟨HRR.out, _, rfl⟩, hbel⟩
        · have g1 : ¬ (d : Int) < 48 := by omega
          have g2 : (57 : Int) < d := by omega
          have HRR := Lib.hid hR
          clear hR
          go_wp2_with fail
          go_ret2
          exact ⟨.inl ⟨HRR.out, _, rfl⟩, hbel⟩
        · have g1 : ¬ (d : Int) < 48 := by omega
          have g2 : ¬ (57 : Int) < d := by omega
          have hn1 : nI (some 0) = 0 := rfl
          rw [hn1]
          clear hn1
          have HRR := Lib.hid hR
          clear hR
          go_wp2_with fail
          go_ret2
          exact ⟨.inl ⟨HRR.out, _, rfl⟩, hbel⟩
        · have g1 : ¬ (d : Int) < 48 := by omega
          have g2 : ¬ (57 : Int) < d := by omega
          cases n with
          | none =>
            have hn1 : nI none = -1 := rfl
            rw [hn1]
            simp only [Option.getD_none, Nat.mul_zero, Nat.zero_add] at hin
            clear hn1 hn0
            rcases hin with ⟨hR, h255⟩ | ⟨h255, hnx⟩
            · exact absurd h255 (by omega)
            · have HNX := Lib.hid hnx
              have hv : (d : Int) - 48 = ((d - 48 : Nat) : Int) := by omega
              have HV := Lib.hid hv
              have g3 : ¬ (255 : Int) < (d : Int) - 48 := by omega
              clear hnx hv
              go_wp2_with fail
              go_roundw
              case rel => exact ⟨k + 1, some (d - 48), out, by go_num, by have := HV.out; first | go_num | (show Value.int _ _ = Value.int _ _; congr 1 <;> (simp only [nI]; omega)), HNX.out, hown, hbel⟩
              case measure => simp [intOf]; omega
          | some m =>
            have hn1 : nI (some m) = (m : Int) := rfl
            rw [hn1]
            simp only [Option.getD_some] at hin
            have hm0 : ¬ (m : Int) < 0 := by omega
            have hm1 : ((m : Int) == 0) = false := by
              have : m ≠ 0 := fun h => hn0 (by rw [h])
              simp; omega
            clear hn1 hn0
            rcases hin with ⟨hR, h255⟩ | ⟨h255, hnx⟩
            · have hmb : m ≤ 255 := hmb0 m rfl
              have g3 : (255 : Int) < 10 * (m : Int) + d - 48 := by omega
              have HRR := Lib.hid hR
              clear hR
              go_wp2_with fail
              go_ret2
              exact ⟨.inl ⟨HRR.out, _, rfl⟩, hbel⟩
            · have HNX := Lib.hid hnx
              have hv : 10 * (m : Int) + d - 48 = ((10 * m + (d - 48) : Nat) : Int) := by omega
              have HV := Lib.hid hv
              have g3 : ¬ (255 : Int) < 10 * (m : Int) + d - 48 := by omega
              clear hnx hv
              go_wp2_with fail
              go_roundw
              case rel => exact ⟨k + 1, some (10 * m + (d - 48)), out, by go_num, by have := HV.out; first | go_num | (show Value.int _ _ = Value.int _ _; congr 1 <;> (simp only [nI]; omega)), HNX.out, hown, hbel⟩
              case measure => simp [intOf]; omega
    · obtain ⟨_, _, ⟨h, _⟩ | ⟨rfl, hR⟩⟩ := hat
      · exact absurd h hk
      · have hkI : ¬ ((s.size + 1 : Nat) : Int) ≤ s.size := by omega
        have HRR := Lib.hid hR
        clear hR
        by_cases h4 : out.length = 4
        · have h4' : ((out.length : Int) == 4) = true := by simp; omega
          have hRR := HRR.out
          rw [if_pos h4] at hRR
          have HR2 := Lib.hid hRR
          have HO := Lib.hid hown
          rw [h4] at HO
          clear hRR HRR h4
          generalize out.length = ol at *
          go_wp2_with fail
          go_ret2
          obtain rfl : ol = 4 := by simp at h4'; omega
          exact ⟨.inr ⟨out, _, HR2.out, rfl, HO.out⟩, hbel⟩
        · have h4' : ((out.length : Int) == 4) = false := by simp; omega
          have hRR := HRR.out
          rw [if_neg h4] at hRR
          have HR2 := Lib.hid hRR
          clear hRR HRR h4
          generalize out.length = ol at *
          go_wp2_with fail
          go_ret2
          exact ⟨.inl ⟨HR2.out, _, rfl⟩, hbel⟩
end Go.Proofs.YtgdgklibilddgaaDoor
