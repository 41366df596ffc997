/- Addresses: the walk of the reference's reading of a text. -/
import Derived.Test.YtgdgklibilddgaaDoorAeA
import Derived.Test.YtgdgklibilddgaaDoorApZ
import Derived.Test.YtgdgklibilddgaaDoorAdF
import Derived.Deep.Cut
import Derived.Deep.CutBlock
namespace Go.Proofs.YtgdgklibilddgaaDoor
open Go.RowKit

theorem below_own0 {w wr w' : World} {v : Value} {base n : Nat} {e : TypeId} {xs : List Value} (h : Below w.heap.size w wr) (hown : wr.ownsRow base e 1 v n xs) (hb : w.heap.size ≤ base) (hg : wr.grownBy w' v.ownBlock) : Below w.heap.size w w' :=
  h.grown hg (by have := h.size; omega) fun k hk => Nat.le_trans hb ((hown.lt k hk).1)
theorem add_zero' (g j : Nat) : (⟨g, 0, none⟩ : Addr).add j = ⟨g, j, none⟩ := by unfold Addr.add; split <;> simp_all
theorem four_len {l : List UInt8} {t : List Nat} (h : refFour none [] l = some t) : t.length = 4 ∧ ∀ k ∈ t, k ≤ 255 := by
  rw [refFour_four] at h
  unfold four at h
  split at h
  · rename_i h4
    obtain ⟨q1, q2⟩ := mapM8_lt h
    exact ⟨by omega, q2⟩
  · cases h

set_option maxRecDepth 100000 in
set_option maxHeartbeats 3200000 in
theorem rparse_c (s : ByteArray) (w : World) (hs : s.size ≤ 1000000) :
    Calls Tryd.prog 13 #[.string s] w fun e w' => e = .returned (parseV (parseA (bts s))) ∧ Below w.heap.size w w' := by
  obtain ⟨i0, hi0, hz0, hz1, hz2⟩ := info_parts info_u8
  generalize hPA : parseA (bts s) = P
  have HPA := Lib.hid hPA
  clear hPA
  go_enter Tryd.func13, Tryd.ntmps13
  go_wp2_with fail
  have hR : Blk (w.alloc (Obj.cells #[.bool false, .int .u64 0, .int .u64 0] 26)) (w.heap.size) 26 (AddrC false 0) := (Blk.new' _ _ _ _ (by simp) : Blk (w.alloc (Obj.cells #[.bool false, .int .u64 0, .int .u64 0] 26)) (w.heap.size) 26 (AddrC false 0))
  have hbel : Below w.heap.size w (w.alloc (Obj.cells #[.bool false, .int .u64 0, .int .u64 0] 26)) := (by repeat (first | (with_reducible exact Below.refl _ _) | (with_reducible assumption) | (with_reducible refine bl_alloc ?_ _) | (with_reducible refine bl_drew ?_) | (with_reducible refine bl_drewN ?_ _) | (with_reducible refine bl_set ?_ (by first | (simp; done) | (simp; omega)) _) | (with_reducible refine bl_trans ?_ ‹_›)))
  have hsz : (w.alloc (Obj.cells #[.bool false, .int .u64 0, .int .u64 0] 26)).heap.size = w.heap.size + 1 := by simp
  generalize w.alloc (Obj.cells #[.bool false, .int .u64 0, .int .u64 0] 26) = w1 at *
  go_loopw [4, 5] (fun vc vi wr => ∃ k : Nat, k ≤ s.size ∧ vi = .int .i64 k ∧ vc = .bool (decide ((58 : UInt8) ∈ (bts s).take k)) ∧ wr = w1) (fun _ i _ => s.size - (intOf i).toNat)
  case atStart => exact ⟨0, by omega, rfl, by simp, rfl⟩
  case round =>
    obtain ⟨k, hk, rfl, rfl, rfl⟩ := hrel
    by_cases hl : k < s.size
    · have hkI : (k : Int) < s.size := by omega
      have HS := Lib.hid (has_snoc hl 58)
      have h58 : ((58 : UInt8).toNat : Int) = 58 := rfl
      rw [h58] at HS
      clear h58
      generalize decide ((58 : UInt8) ∈ (bts s).take k) = b at *
      generalize hdd : (s[k]'hl).toNat = d at *
      cases b with
      | true =>
        go_wp2_with fail
        go_roundw
        case rel => exact ⟨k + 1, by omega, by go_num, by rw [HS.out]; rfl, by first | rfl | trivial⟩
        case measure => simp [intOf]; omega
      | false =>
        generalize hbb : ((d : Int) == 58) = b2 at *
        go_wp2_with fail
        go_roundw
        case rel => exact ⟨k + 1, by omega, by go_num, by rw [HS.out]; rfl, by first | rfl | trivial⟩
        case measure => simp [intOf]; omega
    · obtain rfl : k = s.size := by omega
      have hkI : ¬ ((s.size : Nat) : Int) < s.size := by omega
      have ht : (bts s).take s.size = bts s := List.take_of_length_le (by rw [bts_len]; exact Nat.le_refl _)
      rw [ht]
      clear ht
      generalize wr = w1 at *
      by_cases h58 : (58 : UInt8) ∈ bts s
      · have e58 : decide ((58 : UInt8) ∈ bts s) = true := by simp [h58]
        rw [e58]
        have hst0 := RefAt.start ((refA_eq h58).trans HPA.out) h58
        clear e58 HPA h58 hk hl hkI
        go_upto_region 14 with (fail)
        rw [← hsz]
        have hw1 : w.heap.size < w1.heap.size := by omega
        clear hsz
        have hown : (w1.alloc (.cells #[] 5)).ownsRow w1.heap.size 5 1 (.slice (some ⟨w1.heap.size, 0, none⟩) 0 0) 0 [] := own_empty w1 _ _ (Nat.le_refl _)
        have hbx : Below w1.heap.size w1 (w1.alloc (.cells #[] 5)) := (by repeat (first | (with_reducible exact Below.refl _ _) | (with_reducible assumption) | (with_reducible refine bl_alloc ?_ _) | (with_reducible refine bl_drew ?_) | (with_reducible refine bl_drewN ?_ _) | (with_reducible refine bl_set ?_ (by first | (simp; done) | (simp; omega)) _) | (with_reducible refine bl_trans ?_ ‹_›)))
        generalize w1.alloc (.cells #[] 5) = w2 at *
        obtain ⟨dd, hdd⟩ : ∃ dd : Bool, (dd = true ∧ ∃ (h2 : 2 ≤ s.size), (s[0]'(by omega)).toNat = 58 ∧ (s[1]'(by omega)).toNat = 58 ∧ RefAt s P 2 [] (some 0)) ∨ (dd = false ∧ RefAt s P 0 [] none ∧ (s.size < 2 ∨ ∃ (h2 : 2 ≤ s.size), (s[0]'(by omega)).toNat ≠ 58 ∨ ((s[0]'(by omega)).toNat = 58 ∧ (s[1]'(by omega)).toNat ≠ 58))) := by
          rcases hst0 with h | h
          · exact ⟨true, .inl ⟨rfl, h⟩⟩
          · exact ⟨false, .inr ⟨rfl, h⟩⟩
        clear hst0
        go_cut [57] from 999 (fun t wc => t = .bool dd ∧ wc = w2)
        case first =>
          rcases hdd with ⟨rfl, h2, q0, q1, _⟩ | ⟨rfl, _, h2 | ⟨h2, q0 | ⟨q0, q1⟩⟩⟩
          · have g0 : (2 : Int) ≤ s.size := by omega
            have g1 : 0 < s.size := by omega
            have g2 : 1 < s.size := by omega
            have q0' : (((s[0]'g1).toNat : Int) == 58) = true := by rw [q0]; rfl
            have q1' : (((s[1]'g2).toNat : Int) == 58) = true := by rw [q1]; rfl
            clear q0 q1
            go_wp2_with fail
            go_meet
            case rel => exact ⟨rfl, rfl⟩
          · have g0 : ¬ (2 : Int) ≤ s.size := by omega
            go_wp2_with fail
            go_meet
            case rel => exact ⟨rfl, rfl⟩
          · have g0 : (2 : Int) ≤ s.size := by omega
            have g1 : 0 < s.size := by omega
            have g2 : 1 < s.size := by omega
            have q0' : (((s[0]'g1).toNat : Int) == 58) = false := by simp; omega
            clear q0
            go_wp2_with fail
            go_meet
            case rel => exact ⟨rfl, rfl⟩
          · have g0 : (2 : Int) ≤ s.size := by omega
            have g1 : 0 < s.size := by omega
            have g2 : 1 < s.size := by omega
            have q0' : (((s[0]'g1).toNat : Int) == 58) = true := by rw [q0]; rfl
            have q1' : (((s[1]'g2).toNat : Int) == 58) = false := by simp; omega
            clear q0 q1
            go_wp2_with fail
            go_meet
            case rel => exact ⟨rfl, rfl⟩
        case rest =>
          obtain ⟨rfl, rfl⟩ := hcut
          generalize wc = w2 at *
          have hat : ∃ (x : Nat) (gap : Option Nat), ((dd = true ∧ x = 2 ∧ gap = some 0) ∨ (dd = false ∧ x = 0 ∧ gap = none)) ∧ RefAt s P x [] gap := by
            rcases hdd with ⟨h, _, _, _, h2⟩ | ⟨h, h2, _⟩
            · exact ⟨2, some 0, .inl ⟨h, rfl, rfl⟩, h2⟩
            · exact ⟨0, none, .inr ⟨h, rfl, rfl⟩, h2⟩
          clear hdd
          obtain ⟨x0, gap0, hcase, hat⟩ := hat
          go_upto_if 57 with (fail)
          go_cut [9, 10] from 999 (fun vg va wc => vg = .int .i64 (gI gap0) ∧ va = .int .i64 x0 ∧ wc = w2)
          case first =>
            rcases hcase with ⟨rfl, rfl, rfl⟩ | ⟨rfl, rfl, rfl⟩
            · go_wp2_with fail
              go_meet
              case rel => exact ⟨rfl, rfl, rfl⟩
            · go_wp2_with fail
              go_meet
              case rel => exact ⟨rfl, rfl, rfl⟩
          case rest =>
            obtain ⟨rfl, rfl, rfl⟩ := hcut
            clear hcase
            go_upto_block 2 with (fail)
            generalize wc = w2 at *
            go_cut [8, 9] from 999 (fun vo vg wc => ∃ (G : List Nat) (gap : Option Nat), vg = .int .i64 (gI gap) ∧ G.length ≤ 10 ∧ (∀ g ∈ G, g < 65536) ∧ (∀ j, gap = some j → j ≤ G.length) ∧ fin G gap = P ∧ wc.ownsRow w1.heap.size 5 1 vo (2 * G.length) (bytesV (ints (byts G))) ∧ Below w1.heap.size w1 wc)
            case rest =>
              clear hown hbx hat
              obtain ⟨G, gap, rfl, hG10, hGl, hj, hfin, hown, hbx⟩ := hcut
              have hR3 := hR.below hbx hw1
              have hbel3 := bl_trans hbel hbx
              have hwc : w.heap.size < wc.heap.size := Nat.lt_of_lt_of_le hw1 hbx.size
              have HFIN := Lib.hid hfin
              have hBl : (byts G).length = 2 * G.length := byts_len G
              obtain ⟨sa, sc, rfl⟩ := own_slice hown
              by_cases hok : (gap = none ∧ G.length = 8) ∨ (∃ j, gap = some j ∧ G.length ≤ 7)
              · obtain ⟨f1, f2, f3⟩ := fin_bytes hGl hj hok
                have hcase : (gI gap = -1 ∧ 2 * G.length = 16) ∨ (0 ≤ gI gap ∧ 2 * G.length ≤ 14) := by
                  rcases hok with ⟨rfl, h8⟩ | ⟨j, rfl, h7⟩
                  · exact .inl ⟨rfl, by omega⟩
                  · exact .inr ⟨by show (0 : Int) ≤ ((2 * j : Nat) : Int); omega, by omega⟩
                obtain ⟨zn, hzn⟩ : ∃ zn, zn = 16 - 2 * G.length := ⟨_, rfl⟩
                rw [← hzn] at f1 f2 f3
                have HJ := Lib.hid (fun j (h : gap = some j) => show 2 * j ≤ (byts G).length by have := hj j h; omega)
                obtain ⟨z, hz⟩ : ∃ z : List Nat, z = List.replicate zn 0 := ⟨_, rfl⟩
                rw [← hz] at f1 f2 f3
                have hzl : z.length = zn := by rw [hz]; simp
                obtain ⟨E, hE⟩ : ∃ E, E = endB (byts G) z gap := ⟨_, rfl⟩
                rw [← hE] at f1 f2 f3
                have FE1 := Lib.hid f1
                have FE2 := Lib.hid f2
                have FE3 := Lib.hid f3
                have HE := Lib.hid hE
                generalize byts G = B at *
                generalize 2 * G.length = ol at *
                have HZI := Lib.hid (show (16 : Int) - (ol : Int) = (zn : Int) by omega)
                have HZC := Lib.hid (show (Builtin.zeroCells (Value.int .u8 0).cells zn).toList = bytesV (ints z) by rw [hz]; exact zero_bytes zn)
                have HZN := Lib.hid (show 0 ≤ gI gap → 0 < zn by omega)
                have HZ := Lib.hid hzl
                have HB := Lib.hid hBl
                have hzn16 : zn ≤ 16 := by omega
                have hol16 : ol ≤ 16 := by omega
                clear f1 f2 f3 hE hok hj hfin hz hzn hGl hG10 hzl hBl
                go_upto_region 52 with (fail)
                go_cut [188] from 999 (fun t wy => t = .bool false ∧ wy = wc)
                case first =>
                  rcases hcase with ⟨h1, h2⟩ | ⟨h1, h2⟩
                  · have h3 : gI gap < 0 := by omega
                    have h4 : ¬ 0 ≤ gI gap := by omega
                    have h5 : ((ol : Int) == 16) = true := by simp; omega
                    clear h1 h2
                    go_wp2_with fail
                    all_goals first | (exfalso; simp at h5; omega) | (go_meet; case rel => exact ⟨rfl, rfl⟩)
                  · have h3 : ¬ gI gap < 0 := by omega
                    have h4 : ¬ (14 : Int) < (ol : Int) := by omega
                    go_wp2_with fail
                    go_meet
                    case rel => exact ⟨rfl, rfl⟩
                case rest =>
                  obtain ⟨rfl, rfl⟩ := hcut
                  clear hcase
                  generalize wc = wc at *
                  go_wp2_with fail
                  have hown2 : (wc.alloc (.cells #[] 5)).ownsRow wc.heap.size 5 1 (.slice (some ⟨wc.heap.size, 0, none⟩) 0 0) 0 [] := own_empty wc _ _ (Nat.le_refl _)
                  have hb2 : Below wc.heap.size wc (wc.alloc (.cells #[] 5)) := (by repeat (first | (with_reducible exact Below.refl _ _) | (with_reducible assumption) | (with_reducible refine bl_alloc ?_ _) | (with_reducible refine bl_drew ?_) | (with_reducible refine bl_drewN ?_ _) | (with_reducible refine bl_set ?_ (by first | (simp; done) | (simp; omega)) _) | (with_reducible refine bl_trans ?_ ‹_›)))
                  generalize wc.alloc (.cells #[] 5) = wd at *
                  go_loopw [17, 18] (fun va vi wx => ∃ (i : Nat) (al : List Nat), i ≤ ol ∧ vi = .int .i64 i ∧ al = allB B z gap i ∧ wx.ownsRow wc.heap.size 5 1 va al.length (bytesV (ints al)) ∧ Below wc.heap.size wc wx) (fun _ i _ => ol - (intOf i).toNat)
                  case atStart => exact ⟨0, [], by omega, rfl, (allB_zero _ _ _).symm, hown2, hb2⟩
                  case round =>
                    clear hown2 hb2
                    obtain ⟨i, al, hio, rfl, hal, hown2, hb2⟩ := hrel
                    have hall : al.length ≤ 36 := by
                      have := allB_len B z gap i
                      rw [← hal, HB.out, HZ.out] at this
                      omega
                    have hwr := hb2.size
                    by_cases hil : i < ol
                    · have hilI : (i : Int) < ol := by omega
                      have hiB : i < B.length := by rw [HB.out]; exact hil
                      obtain ⟨g, cap, hv, g1, g2, g3, g4, g5⟩ := own_form hown (by omega)
                      cases hv
                      have hxb := List.getElem?_eq_getElem hiB
                      have x0 := (hb2.cell (p := ⟨g, i, none⟩) g2).trans (g4 i (.int .u8 (B[i] : Nat)) (by rw [get_bytes (by simpa [ints] using hiB)]; simp [ints, List.getD_eq_getElem?_getD, List.getElem?_eq_getElem hiB]))
                      have hst := allB_step (z := z) (gap := gap) hxb
                      rw [← hal] at hst
                      generalize B[i] = x at *
                      by_cases hgi : gI gap = (i : Int)
                      · rw [if_pos hgi] at hst
                        have e1 : ((i : Int) == gI gap) = true := by simp [hgi]
                        have HST := Lib.hid hst
                        have hln : (al ++ z ++ [x]).length = al.length + zn + 1 := by simp [HZ.out]; omega
                        have HLN := Lib.hid hln
                        have HBV := Lib.hid (show bytesV (ints al) ++ (bytesV (ints z) ++ [.int .u8 (x : Int)]) = bytesV (ints (al ++ z ++ [x])) by simp [bytesV, ints])
                        have HXB := Lib.hid ((hb2.cell (p := ⟨g, i, none⟩) g2).symm.trans x0)
                        have HGI := Lib.hid hgi
                        have hzn0 : 0 < zn := HZN.out (by omega)
                        clear hst hln hgi hxb hal g4
                        generalize al.length = an at *
                        go_wp2_with (at_builtin; refine wpList_append_zeros _ rfl _ _ 34 3 rfl wc.heap.size 5 i0 (.int .u8 0) 1 .i64 .i64 Tryd.underlying34 Tryd.underlying3 hi0 hz0 hz1 hz2 rfl _ _ _ rfl hown2 zn hzn0 (by first | rfl | exact congrArg (Value.int .i64) HZI.out) (bytesV (ints z)) HZC.out (one_bytes _) (by simp only [maxLen]; omega) (by omega) (by omega) ?_)
                        intro v' wa hown' hgrow
                        have hbel1 := below_own0 hb2 hown2 (Nat.le_refl _) hgrow
                        have x1 := (hbel1.cell (p := ⟨g, i, none⟩) g2).trans HXB.out
                        replace hown2 := hown'
                        have hs1 := hbel1.size
                        clear x0 hgrow
                        go_wp2_with (at_builtin; refine wpList_append_own _ rfl _ _ 34 rfl wc.heap.size 5 i0 (.int .u8 0) 1 1 Tryd.underlying34 hi0 hz0 hz1 hz2 rfl (by decide) _ _ _ rfl (hown2.alloc _) ⟨wa.heap.size, 0, none⟩ 1 1 [.int .u8 (x : Int)] rfl rfl ?z1_1 ?z1_2 ?z1_3 ?z1_4 ?z1_5 ?_)
                        (try case z1_1 => exact cell_list _ _ _)
                        (try case z1_2 => (first | exact one_cell_k _ _ | rfl | (intro u hu; simp at hu; (try rcases hu with rfl | rfl) <;> (try subst hu) <;> rfl)))
                        case z1_3 => (first | (simp only [maxLen]; omega) | omega)
                        (try case z1_4 => omega)
                        (try case z1_5 => (first | omega | (simp; omega)))
                        (try case z1_2 => (first | exact one_cell_k _ _ | rfl | (intro u hu; simp at hu; (try rcases hu with rfl | rfl) <;> (try subst hu) <;> rfl)))
                        intro v' wa hown' hgrow _
                        have hbel1 := below_own hbel1 hown2 (by first | exact Nat.le_refl _ | omega) hgrow
                        go_wp2_with fail
                        go_roundw
                        case rel => exact ⟨i + 1, al ++ z ++ [x], by omega, by go_num, HST.out.symm, by rw [HLN.out, ← HBV.out]; exact hown', hbel1⟩
                        case measure => simp [intOf]; omega
                      · rw [if_neg hgi] at hst
                        have e1 : ((i : Int) == gI gap) = false := by simp; omega
                        have HST := Lib.hid (show allB B z gap (i + 1) = al ++ [x] by rw [hst]; simp)
                        have hln : (al ++ [x]).length = al.length + 1 := by simp
                        have HLN := Lib.hid hln
                        have HBV := Lib.hid (show bytesV (ints al) ++ [.int .u8 (x : Int)] = bytesV (ints (al ++ [x])) by simp [bytesV, ints])
                        clear hst hln hgi hxb hal g4
                        generalize al.length = an at *
                        go_wp2_with (at_builtin; refine wpList_append_own _ rfl _ _ 34 rfl wc.heap.size 5 i0 (.int .u8 0) 1 1 Tryd.underlying34 hi0 hz0 hz1 hz2 rfl (by decide) _ _ _ rfl (hown2.alloc _) ⟨wr.heap.size, 0, none⟩ 1 1 [.int .u8 (x : Int)] rfl rfl ?z2_1 ?z2_2 ?z2_3 ?z2_4 ?z2_5 ?_)
                        (try case z2_1 => exact cell_list _ _ _)
                        (try case z2_2 => (first | exact one_cell_k _ _ | rfl | (intro u hu; simp at hu; (try rcases hu with rfl | rfl) <;> (try subst hu) <;> rfl)))
                        case z2_3 => (first | (simp only [maxLen]; omega) | omega)
                        (try case z2_4 => omega)
                        (try case z2_5 => (first | omega | (simp; omega)))
                        (try case z2_2 => (first | exact one_cell_k _ _ | rfl | (intro u hu; simp at hu; (try rcases hu with rfl | rfl) <;> (try subst hu) <;> rfl)))
                        intro v' wa hown' hgrow _
                        have hbel1 := below_own hb2 hown2 (by first | exact Nat.le_refl _ | omega) hgrow
                        go_wp2_with fail
                        go_roundw
                        case rel => exact ⟨i + 1, al ++ [x], by omega, by go_num, HST.out.symm, by rw [HLN.out, ← HBV.out]; exact hown', hbel1⟩
                        case measure => simp [intOf]; omega
                    · obtain rfl : i = ol := by omega
                      have hend := allB_end (z := z) HJ.out
                      rw [HB.out, ← hal, ← HE.out] at hend
                      have hilI : ¬ (i : Int) < i := by omega
                      by_cases hgi : gI gap = (i : Int)
                      · rw [if_pos hgi] at hend
                        have e1 : (gI gap == (i : Int)) = true := by simp [hgi]
                        have HEN := Lib.hid hend
                        have hl16 : al.length + zn = 16 := by
                          have := congrArg List.length hend
                          rw [List.length_append, HZ.out, FE2.out] at this
                          exact this
                        have hzn0 : 0 < zn := HZN.out (by omega)
                        have HBV := Lib.hid (show bytesV (ints al) ++ bytesV (ints z) = bytesV (ints E) by rw [← hend]; simp [bytesV, ints])
                        clear hend hgi hal
                        generalize al.length = an at *
                        go_wp2_with (at_builtin; refine wpList_append_zeros _ rfl _ _ 34 3 rfl wc.heap.size 5 i0 (.int .u8 0) 1 .i64 .i64 Tryd.underlying34 Tryd.underlying3 hi0 hz0 hz1 hz2 rfl _ _ _ rfl hown2 zn hzn0 (by first | rfl | exact congrArg (Value.int .i64) HZI.out) (bytesV (ints z)) HZC.out (one_bytes _) (by simp only [maxLen]; omega) (by omega) (by omega) ?_)
                        intro v' wa hown' hgrow
                        have hbel1 := below_own0 hb2 hown2 (Nat.le_refl _) hgrow
                        have hfinal : wa.ownsRow wc.heap.size 5 1 v' 16 (bytesV (ints E)) := by rw [← HBV.out]; first | exact hown' | (rw [← hl16]; exact hown')
                        obtain ⟨gf, capf, rfl, q1, q2, q3, q4, q5⟩ := own_form hfinal (by omega)
                        have HO := Lib.hid (rofbytes_c gf 0 16 capf E wa FE2.out FE3.out (by omega) (by omega) (fun j hj => by rw [Nat.zero_add]; exact q4 j _ (by rw [get_bytes (by simpa [ints] using hj)]; simp [ints, List.getD_eq_getElem?_getD, List.getElem?_eq_getElem hj])) q2)
                        have hv16 : ((16 : Nat) == 16) = true := rfl
                        rw [hv16] at HO
                        have hn := HFIN.out.symm.trans FE1.out
                        have HN := Lib.hid hn
                        have hR4 := hR3.below hbel1 hwc
                        have hbel4 := bl_trans hbel3 hbel1
                        clear hn q4 q5 hfinal hv16
                        generalize valB E = V at *
                        go_wp2_with fail
                        with_reducible refine HO.out.mono ?_
                        rintro e w5 ⟨rfl, hb5⟩
                        have hR5 := hR4.after hb5
                        have hbel5 := bl_trans hbel4 hb5
                        obtain ⟨c0, c1, c2, _⟩ := blk_adr hR5
                        have cz0 := hR5.frozen 0
                        have cz1 := hR5.frozen 1
                        have cz2 := hR5.frozen 2
                        rw [AddrV_eq]
                        unfold AddrC
                        go_wp2_with fail
                        obtain ⟨r0, r1, r2, _⟩ := blk_adr (v := true) (n := V) (((hR5.put 0 (.bool true)).put 1 (.int .u64 (hi V))).put 2 (.int .u64 (lo V)))
                        refine bodyPost_ret (v := .tuple #[.agg #[.bool true, .int .u64 (hi V), .int .u64 (lo V)], .int .i64 0]) (by simp [results, Tryd.results13, go_sem, r0, r1, r2]) rfl ⟨by rw [HN.out]; rfl, (by repeat (first | (with_reducible exact Below.refl _ _) | (with_reducible assumption) | (with_reducible refine bl_alloc ?_ _) | (with_reducible refine bl_drew ?_) | (with_reducible refine bl_drewN ?_ _) | (with_reducible refine bl_set ?_ (by first | (simp; done) | (simp; omega)) _) | (with_reducible refine bl_trans ?_ ‹_›)))⟩
                      · rw [if_neg hgi, List.append_nil] at hend
                        have e1 : (gI gap == (i : Int)) = false := by simp; omega
                        subst hend
                        clear hgi hal
                        have hfinal := hown2
                        rw [FE2.out] at hfinal
                        obtain ⟨gf, capf, rfl, q1, q2, q3, q4, q5⟩ := own_form hfinal (by omega)
                        have HO := Lib.hid (rofbytes_c gf 0 16 capf al wr FE2.out FE3.out (by omega) (by omega) (fun j hj => by rw [Nat.zero_add]; exact q4 j _ (by rw [get_bytes (by simpa [ints] using hj)]; simp [ints, List.getD_eq_getElem?_getD, List.getElem?_eq_getElem hj])) q2)
                        have hv16 : ((16 : Nat) == 16) = true := rfl
                        rw [hv16] at HO
                        have hn := HFIN.out.symm.trans FE1.out
                        have HN := Lib.hid hn
                        have hR4 := hR3.below hb2 hwc
                        have hbel4 := bl_trans hbel3 hb2
                        clear hn q4 q5 hfinal hv16
                        generalize valB al = V at *
                        go_wp2_with fail
                        with_reducible refine HO.out.mono ?_
                        rintro e w5 ⟨rfl, hb5⟩
                        have hR5 := hR4.after hb5
                        have hbel5 := bl_trans hbel4 hb5
                        obtain ⟨c0, c1, c2, _⟩ := blk_adr hR5
                        have cz0 := hR5.frozen 0
                        have cz1 := hR5.frozen 1
                        have cz2 := hR5.frozen 2
                        rw [AddrV_eq]
                        unfold AddrC
                        go_wp2_with fail
                        obtain ⟨r0, r1, r2, _⟩ := blk_adr (v := true) (n := V) (((hR5.put 0 (.bool true)).put 1 (.int .u64 (hi V))).put 2 (.int .u64 (lo V)))
                        refine bodyPost_ret (v := .tuple #[.agg #[.bool true, .int .u64 (hi V), .int .u64 (lo V)], .int .i64 0]) (by simp [results, Tryd.results13, go_sem, r0, r1, r2]) rfl ⟨by rw [HN.out]; rfl, (by repeat (first | (with_reducible exact Below.refl _ _) | (with_reducible assumption) | (with_reducible refine bl_alloc ?_ _) | (with_reducible refine bl_drew ?_) | (with_reducible refine bl_drewN ?_ _) | (with_reducible refine bl_set ?_ (by first | (simp; done) | (simp; omega)) _) | (with_reducible refine bl_trans ?_ ‹_›)))⟩
              · have hn : P = none := hfin.symm.trans (fin_none hok)
                have HN := Lib.hid hn
                have hcase : (gI gap = -1 ∧ 2 * G.length ≠ 16) ∨ (0 ≤ gI gap ∧ 14 < 2 * G.length) := by
                  cases gap with
                  | none => exact .inl ⟨rfl, fun h => hok (.inl ⟨rfl, by omega⟩)⟩
                  | some j =>
                    refine .inr ⟨by show (0 : Int) ≤ ((2 * j : Nat) : Int); omega, ?_⟩
                    rcases Nat.lt_or_ge 14 (2 * G.length) with h | h
                    · exact h
                    · exact absurd (.inr ⟨j, rfl, by omega⟩) hok
                generalize 2 * G.length = ol at *
                clear hn hok hfin HFIN hj
                rcases hcase with ⟨h1, h2⟩ | ⟨h1, h2⟩
                · have h3 : ((ol : Int) == 16) = false := by simp; omega
                  have h4 : gI gap < 0 := by omega
                  have h5 : ¬ 0 ≤ gI gap := by omega
                  clear h1
                  obtain ⟨c0, c1, c2, _⟩ := blk_adr hR3
                  have cz0 := hR3.frozen 0
                  have cz1 := hR3.frozen 1
                  have cz2 := hR3.frozen 2
                  go_wp2_with fail
                  obtain ⟨r0, r1, r2, _⟩ := blk_adr (v := false) (n := 0) (((hR3.put 0 (.bool false)).put 1 (.int .u64 0)).put 2 (.int .u64 0))
                  refine bodyPost_ret (v := .tuple #[.agg #[.bool false, .int .u64 0, .int .u64 0], .int .i64 4]) (by simp [results, Tryd.results13, go_sem, r0, r1, r2, hi_zero, lo_zero]) rfl ⟨by rw [HN.out]; rfl, (by repeat (first | (with_reducible exact Below.refl _ _) | (with_reducible assumption) | (with_reducible refine bl_alloc ?_ _) | (with_reducible refine bl_drew ?_) | (with_reducible refine bl_drewN ?_ _) | (with_reducible refine bl_set ?_ (by first | (simp; done) | (simp; omega)) _) | (with_reducible refine bl_trans ?_ ‹_›)))⟩
                · have h3 : ¬ gI gap < 0 := by omega
                  have h4 : (14 : Int) < (ol : Int) := by omega
                  obtain ⟨c0, c1, c2, _⟩ := blk_adr hR3
                  have cz0 := hR3.frozen 0
                  have cz1 := hR3.frozen 1
                  have cz2 := hR3.frozen 2
                  go_wp2_with fail
                  obtain ⟨r0, r1, r2, _⟩ := blk_adr (v := false) (n := 0) (((hR3.put 0 (.bool false)).put 1 (.int .u64 0)).put 2 (.int .u64 0))
                  refine bodyPost_ret (v := .tuple #[.agg #[.bool false, .int .u64 0, .int .u64 0], .int .i64 4]) (by simp [results, Tryd.results13, go_sem, r0, r1, r2, hi_zero, lo_zero]) rfl ⟨by rw [HN.out]; rfl, (by repeat (first | (with_reducible exact Below.refl _ _) | (with_reducible assumption) | (with_reducible refine bl_alloc ?_ _) | (with_reducible refine bl_drew ?_) | (with_reducible refine bl_drewN ?_ _) | (with_reducible refine bl_set ?_ (by first | (simp; done) | (simp; omega)) _) | (with_reducible refine bl_trans ?_ ‹_›)))⟩
            case first =>
              go_wp2_with fail
              go_loopw [8, 9, 10] (fun vo vg va wz => ∃ (x : Nat) (G : List Nat) (gap : Option Nat), va = .int .i64 x ∧ vg = .int .i64 (gI gap) ∧ RefAt s P x G gap ∧ wz.ownsRow w1.heap.size 5 1 vo (2 * G.length) (bytesV (ints (byts G))) ∧ Below w1.heap.size w1 wz) (fun _ _ i _ => s.size - (intOf i).toNat)
              case atStart => exact ⟨x0, [], gap0, rfl, rfl, hat, hown, hbx⟩
              case round =>
                clear hown hbx hat
                obtain ⟨x, G, gap, rfl, rfl, hat, hown, hbx⟩ := hrel
                generalize wr = wo at *
                by_cases hx : x < s.size
                · have hxI : (x : Int) < s.size := by omega
                  obtain ⟨e, p, hp⟩ := RefAt.piece (Nat.le_of_lt hx)
                  obtain ⟨hs1, hs2, hs3⟩ := hat.step hx hp
                  have hGb := hat.2.1
                  have hGj := hat.2.2.1
                  have hG8 := hat.2.2.2.1
                  have hpl := hp.1
                  have hpe := hp.2.1
                  have HPC := Lib.hid hp
                  have HS1 := Lib.hid hs1
                  have HS2 := Lib.hid hs2
                  have HS3 := Lib.hid hs3
                  have HGJ := Lib.hid hGj
                  obtain ⟨ol, hol⟩ : ∃ ol, ol = 2 * G.length := ⟨_, rfl⟩
                  rw [← hol] at hown
                  have hol16 : ol ≤ 16 := by omega
                  have HOLN := Lib.hid hol
                  clear hs1 hs2 hs3 hat hp hGj hol
                  go_upto_block 4 with (fail)
                  go_cut [11, 12] from 999 (fun ve vd wy => ve = .int .i64 e ∧ vd = .bool (decide ((46 : UInt8) ∈ p)) ∧ wy = wo)
                  case first =>
                    go_wp2_with fail
                    go_loopw [11, 12] (fun ve vd wy => ∃ y : Nat, x ≤ y ∧ y ≤ e ∧ ve = .int .i64 y ∧ vd = .bool (decide ((46 : UInt8) ∈ p.take (y - x))) ∧ wy = wo) (fun i _ _ => e - (intOf i).toNat)
                    case atStart => exact ⟨x, by omega, by omega, rfl, by simp, rfl⟩
                    case round =>
                      obtain ⟨y, hy1, hy2, rfl, rfl, rfl⟩ := hrel
                      by_cases hye : y < e
                      · obtain ⟨hys, h58', htk⟩ := HPC.out.snoc hy1 hye
                        have hyI : (y : Int) < s.size := by omega
                        have hd46 : decide ((46 : UInt8) ∈ p.take (y + 1 - x)) = (decide ((46 : UInt8) ∈ p.take (y - x)) || ((s[y]'hys).toNat : Int) == 46) := by rw [htk, dec_snoc]; rfl
                        have HD46 := Lib.hid hd46
                        clear hd46 htk
                        generalize decide ((46 : UInt8) ∈ p.take (y - x)) = b at *
                        generalize hdd : (s[y]'hys).toNat = d at *
                        have e58 : ((d : Int) == 58) = false := by simp; omega
                        cases b with
                        | true =>
                          go_wp2_with fail
                          go_roundw
                          case rel => exact ⟨y + 1, by omega, by omega, by go_num, by rw [HD46.out]; rfl, by first | rfl | trivial⟩
                          case measure => simp [intOf]; omega
                        | false =>
                          generalize hbb : ((d : Int) == 46) = b2 at *
                          go_wp2_with fail
                          go_roundw
                          case rel => exact ⟨y + 1, by omega, by omega, by go_num, by rw [HD46.out]; rfl, by first | rfl | trivial⟩
                          case measure => simp [intOf]; omega
                      · obtain rfl : y = e := by omega
                        have htk : p.take (y - x) = p := List.take_of_length_le (by omega)
                        rw [htk]
                        clear htk
                        rcases HPC.out.2.2.2.2 with he | ⟨he, h58'⟩
                        · have hyI : ¬ (y : Int) < s.size := by omega
                          clear he
                          go_wp2_with fail
                          go_meet
                          case rel => exact ⟨rfl, rfl, by first | rfl | trivial⟩
                        · have hyI : (y : Int) < s.size := by omega
                          have e58 : (((s[y]'he).toNat : Int) == 58) = true := by rw [h58']; rfl
                          clear h58'
                          go_wp2_with fail
                          go_meet
                          case rel => exact ⟨rfl, rfl, by first | rfl | trivial⟩
                  case rest =>
                    obtain ⟨rfl, rfl, rfl⟩ := hcut
                    generalize wc = wo at *
                    by_cases h46 : (46 : UInt8) ∈ p
                    · have d46 : decide ((46 : UInt8) ∈ p) = true := by simp [h46]
                      rw [d46]
                      have HR0 := Lib.hid (HS1.out h46)
                      have hxe : bts (s.extract x s.size) = (bts s).drop x := bts_from
                      have HF := Lib.hid (fun w => rfour_c (s.extract x s.size) w (by simp; omega))
                      have ht4 : ∀ t, refFour none [] ((bts s).drop x) = some t → t.length = 4 ∧ ∀ k ∈ t, k ≤ 255 := fun t h => four_len h
                      have HT4 := Lib.hid ht4
                      rw [hxe] at HF
                      clear d46 ht4 hxe HS1 HS2 HS3 h46 HPC
                      generalize refFour none [] ((bts s).drop x) = R4 at *
                      go_wp2_with fail
                      with_reducible refine (HF.out _).mono ?_
                      rintro e' w3 ⟨hF, hb⟩
                      have hbx3 := bl_trans hbx hb
                      have hown3 := own_after hown hb
                      have hR3 := hR.below hbx3 hw1
                      have hbel3 := bl_trans hbel hbx3
                      clear HF
                      rcases hF with ⟨rfl, v, rfl⟩ | ⟨t, v, rfl, rfl, hown4⟩
                      · have hn : P = none := HR0.out
                        have HN := Lib.hid hn
                        clear hn HR0
                        obtain ⟨c0, c1, c2, _⟩ := blk_adr hR3
                        have cz0 := hR3.frozen 0
                        have cz1 := hR3.frozen 1
                        have cz2 := hR3.frozen 2
                        go_wp2_with fail
                        obtain ⟨r0, r1, r2, _⟩ := blk_adr (v := false) (n := 0) (((hR3.put 0 (.bool false)).put 1 (.int .u64 0)).put 2 (.int .u64 0))
                        refine bodyPost_ret (v := .tuple #[.agg #[.bool false, .int .u64 0, .int .u64 0], .int .i64 4]) (by simp [results, Tryd.results13, go_sem, r0, r1, r2, hi_zero, lo_zero]) rfl ⟨by rw [HN.out]; rfl, (by repeat (first | (with_reducible exact Below.refl _ _) | (with_reducible assumption) | (with_reducible refine bl_alloc ?_ _) | (with_reducible refine bl_drew ?_) | (with_reducible refine bl_drewN ?_ _) | (with_reducible refine bl_set ?_ (by first | (simp; done) | (simp; omega)) _) | (with_reducible refine bl_trans ?_ ‹_›)))⟩
                      · obtain ⟨ht4, ht5⟩ := HT4.out t rfl
                        obtain ⟨g, cap, rfl, g1, g2, g3, g4, g5⟩ := own_form hown4 (by omega)
                        have hbl : (bytesV (ints t)).length = 4 * 1 := by simp [bytesV, ints, ht4]
                        have HBL := Lib.hid hbl
                        have hc3 : ∀ j u, (bytesV (ints t))[j]? = some u → w3.cell? ((⟨g, 0, none⟩ : Addr).add j) = some u := fun j u hu => by
                          rw [add_zero']
                          exact g4 j u hu
                        have HC3 := Lib.hid hc3
                        have hn : P = fin (G ++ grp t) gap := HR0.out
                        have HN := Lib.hid hn
                        clear hn HR0 hbl hc3 g4 HT4
                        go_wp2_with (at_builtin; refine wpList_append_own _ rfl _ _ 34 rfl w1.heap.size 5 i0 (.int .u8 0) 1 1 Tryd.underlying34 hi0 hz0 hz1 hz2 rfl (by decide) _ _ _ rfl hown3 ⟨g, 0, none⟩ 4 cap (bytesV (ints t)) rfl HBL.out HC3.out (one_bytes _) (by simp only [maxLen]; omega) (by omega) (by have := hbx3.size; omega) ?_)
                        intro v' wa hown' hgrow _
                        have hbel1 := below_own0 hbx3 hown3 (Nat.le_refl _) hgrow
                        have hgl : (grp t).length = 2 := grp_len ht4
                        have hbg : byts (G ++ grp t) = byts G ++ t := by rw [byts_app, byts_grp ht4 ht5]
                        go_wp2_with fail
                        go_meet
                        case rel => exact ⟨G ++ grp t, gap, rfl, by rw [List.length_append, hgl]; omega, fun y hy => (List.mem_append.1 hy).elim (hGb y) (grp_lt ht5 y), fun j hj => by have := HGJ.out j hj; rw [List.length_append]; omega, HN.out.symm, by
                          rw [hbg, show 2 * (G ++ grp t).length = ol + 4 by rw [List.length_append, hgl, HOLN.out]; omega, show bytesV (ints (byts G ++ t)) = bytesV (ints (byts G)) ++ bytesV (ints t) by simp [bytesV, ints]]
                          exact hown', hbel1⟩
                    · have d46 : decide ((46 : UInt8) ∈ p) = false := by simp [h46]
                      rw [d46]
                      clear d46 HS1
                      have HS2' := Lib.hid (HS2.out h46)
                      have HS3' := Lib.hid (fun g => HS3.out g h46)
                      clear HS2 HS3 h46
                      by_cases hex : e = x
                      · have e1 : ((e : Int) == (x : Int)) = true := by simp; omega
                        have hn := HS2'.out (hex16_short (.inl (by omega)))
                        have HN := Lib.hid hn
                        have hR3 := hR.below hbx hw1
                        have hbel3 := bl_trans hbel hbx
                        clear hn HS2' HS3' HPC
                        obtain ⟨c0, c1, c2, _⟩ := blk_adr hR3
                        have cz0 := hR3.frozen 0
                        have cz1 := hR3.frozen 1
                        have cz2 := hR3.frozen 2
                        go_wp2_with fail
                        obtain ⟨r0, r1, r2, _⟩ := blk_adr (v := false) (n := 0) (((hR3.put 0 (.bool false)).put 1 (.int .u64 0)).put 2 (.int .u64 0))
                        refine bodyPost_ret (v := .tuple #[.agg #[.bool false, .int .u64 0, .int .u64 0], .int .i64 4]) (by simp [results, Tryd.results13, go_sem, r0, r1, r2, hi_zero, lo_zero]) rfl ⟨by rw [HN.out]; rfl, (by repeat (first | (with_reducible exact Below.refl _ _) | (with_reducible assumption) | (with_reducible refine bl_alloc ?_ _) | (with_reducible refine bl_drew ?_) | (with_reducible refine bl_drewN ?_ _) | (with_reducible refine bl_set ?_ (by first | (simp; done) | (simp; omega)) _) | (with_reducible refine bl_trans ?_ ‹_›)))⟩
                      · have e1 : ((e : Int) == (x : Int)) = false := by simp; omega
                        by_cases he4 : 4 < e - x
                        · have e2 : (4 : Int) < (e : Int) - x := by omega
                          have hn := HS2'.out (hex16_short (.inr (by omega)))
                          have HN := Lib.hid hn
                          have hR3 := hR.below hbx hw1
                          have hbel3 := bl_trans hbel hbx
                          clear hn HS2' HS3' HPC
                          obtain ⟨c0, c1, c2, _⟩ := blk_adr hR3
                          have cz0 := hR3.frozen 0
                          have cz1 := hR3.frozen 1
                          have cz2 := hR3.frozen 2
                          go_wp2_with fail
                          obtain ⟨r0, r1, r2, _⟩ := blk_adr (v := false) (n := 0) (((hR3.put 0 (.bool false)).put 1 (.int .u64 0)).put 2 (.int .u64 0))
                          refine bodyPost_ret (v := .tuple #[.agg #[.bool false, .int .u64 0, .int .u64 0], .int .i64 4]) (by simp [results, Tryd.results13, go_sem, r0, r1, r2, hi_zero, lo_zero]) rfl ⟨by rw [HN.out]; rfl, (by repeat (first | (with_reducible exact Below.refl _ _) | (with_reducible assumption) | (with_reducible refine bl_alloc ?_ _) | (with_reducible refine bl_drew ?_) | (with_reducible refine bl_drewN ?_ _) | (with_reducible refine bl_set ?_ (by first | (simp; done) | (simp; omega)) _) | (with_reducible refine bl_trans ?_ ‹_›)))⟩
                        · have e2 : ¬ (4 : Int) < (e : Int) - x := by omega
                          go_wp2_with fail
                          go_loopw [15, 16] (fun vn vk wy => ∃ k m : Nat, x ≤ k ∧ k ≤ e ∧ vk = .int .i64 k ∧ vn = .int .i64 m ∧ hexM 0 (p.take (k - x)) = some m ∧ Below wo.heap.size wo wy) (fun _ i _ => e - (intOf i).toNat)
                          case atStart => exact ⟨x, 0, by omega, by omega, rfl, rfl, by simp [hexM], Below.refl _ _⟩
                          case round =>
                            obtain ⟨k, m, hk1, hk2, rfl, rfl, hm, hby⟩ := hrel
                            have hbx3 := bl_trans hbx hby
                            have hown3 := own_after hown hby
                            have hR3 := hR.below hbx3 hw1
                            have hbel3 := bl_trans hbel hbx3
                            have hmr := hexM_room hm (by omega)
                            have HM := Lib.hid hm
                            by_cases hke : k < e
                            · have hkI : (k : Int) < e := by omega
                              obtain ⟨hks, _, htk⟩ := HPC.out.snoc hk1 hke
                              have hmm : m < 4096 := by
                                have : 16 ^ (k - x) ≤ 16 ^ 3 := Nat.pow_le_pow_right (by omega) (by omega)
                                omega
                              have hsn : hexM 0 (p.take (k + 1 - x)) = (hexV (s[k]'hks)).map (16 * m + ·) := by rw [htk, hexM_snoc, hm]
                              have hkI2 : (k : Int) < s.size := by omega
                              have hd256 := (s[k]'hks).toNat_lt
                              rcases hexV_I (s[k]'hks) with ⟨d, hd1, hd2, hd3⟩ | ⟨hd1, hd2⟩
                              · have HD := Lib.hid (fun w => rdigit_c (s[k]'hks).toNat w (by omega))
                                rw [hd2] at HD
                                rw [hd1] at hsn
                                have hsn2 : hexM 0 (p.take (k + 1 - x)) = some (16 * m + d) := hsn
                                have HSN := Lib.hid hsn2
                                have hdn : ¬ (d : Int) < 0 := by omega
                                clear hsn hsn2 htk hd1 hd2 hm hmr
                                generalize hcc : (s[k]'hks).toNat = c at *
                                go_wp2_with fail
                                with_reducible refine (HD.out _).mono ?_
                                rintro e' w3 ⟨rfl, hb3⟩
                                have hby3 := bl_trans hby hb3
                                go_wp2_with fail
                                with_reducible refine (HD.out _).mono ?_
                                rintro e' w4 ⟨rfl, hb4⟩
                                have hby4 := bl_trans hby3 hb4
                                go_wp2_with fail
                                go_roundw
                                case rel => exact ⟨k + 1, 16 * m + d, by omega, by omega, by go_num, by go_num, HSN.out, hby4⟩
                                case measure => simp [intOf]; omega
                              · have HD := Lib.hid (fun w => rdigit_c (s[k]'hks).toNat w (by omega))
                                rw [hd2] at HD
                                rw [hd1] at hsn
                                have hn := HS2'.out (hexM_stop hsn)
                                have HN := Lib.hid hn
                                clear hsn htk hd1 hd2 hm hmr hn
                                generalize hcc : (s[k]'hks).toNat = c at *
                                go_wp2_with fail
                                with_reducible refine (HD.out _).mono ?_
                                rintro e' w3 ⟨rfl, hb3⟩
                                have hR4 := hR3.after hb3
                                have hbel4 := bl_trans hbel3 hb3
                                obtain ⟨c0, c1, c2, _⟩ := blk_adr hR4
                                have cz0 := hR4.frozen 0
                                have cz1 := hR4.frozen 1
                                have cz2 := hR4.frozen 2
                                go_wp2_with fail
                                obtain ⟨r0, r1, r2, _⟩ := blk_adr (v := false) (n := 0) (((hR4.put 0 (.bool false)).put 1 (.int .u64 0)).put 2 (.int .u64 0))
                                refine bodyPost_ret (v := .tuple #[.agg #[.bool false, .int .u64 0, .int .u64 0], .int .i64 4]) (by simp [results, Tryd.results13, go_sem, r0, r1, r2, hi_zero, lo_zero]) rfl ⟨by rw [HN.out]; rfl, (by repeat (first | (with_reducible exact Below.refl _ _) | (with_reducible assumption) | (with_reducible refine bl_alloc ?_ _) | (with_reducible refine bl_drew ?_) | (with_reducible refine bl_drewN ?_ _) | (with_reducible refine bl_set ?_ (by first | (simp; done) | (simp; omega)) _) | (with_reducible refine bl_trans ?_ ‹_›)))⟩
                            · obtain rfl : k = e := by omega
                              have hkI : ¬ (k : Int) < k := by omega
                              have htk : p.take (k - x) = p := List.take_of_length_le (by omega)
                              rw [htk] at hm
                              have hh := hex16_is (by omega) (by omega) hm
                              have h3 := HS3'.out m hh
                              have HH3 := Lib.hid h3
                              have hm6 : m < 65536 := by
                                have : 16 ^ (k - x) ≤ 16 ^ 4 := Nat.pow_le_pow_right (by omega) (by omega)
                                omega
                              have hu1 : IntKind.u8.wrap ((m : Int) / 256) = (m : Int) / 256 := by show (m : Int) / 256 % 256 = _; omega
                              have hu2 : IntKind.u8.wrap ((m : Int) % 256) = (m : Int) % 256 := by show (m : Int) % 256 % 256 = _; omega
                              have HBV := Lib.hid (show bytesV (ints (byts G)) ++ [.int .u8 ((m : Int) / 256), .int .u8 ((m : Int) % 256)] = bytesV (ints (byts (G ++ [m]))) by
                                rw [byts_app]; simp [bytesV, ints, byts])
                              have HLN := Lib.hid (show ol + 2 = 2 * (G ++ [m]).length by rw [HOLN.out]; simp; omega)
                              have HGM := Lib.hid (show ∀ y ∈ G ++ [m], y < 65536 from fun y hy => (List.mem_append.1 hy).elim (hGb y) (fun h => by simp at h; omega))
                              clear hh h3 htk hm hmr HM HS2' HS3' HPC
                              generalize wr = wz at *
                              have hwz := hbx3.size
                              go_wp2_with (at_builtin; refine wpList_append_own _ rfl _ _ 34 rfl w1.heap.size 5 i0 (.int .u8 0) 1 1 Tryd.underlying34 hi0 hz0 hz1 hz2 rfl (by decide) _ _ _ rfl (hown3.alloc _) ⟨wz.heap.size, 0, none⟩ 2 2 [.int .u8 ((m : Int) / 256), .int .u8 ((m : Int) % 256)] rfl rfl ?z3_1 ?z3_2 ?z3_3 ?z3_4 ?z3_5 ?_)
                              (try case z3_1 => exact cell_list _ _ _)
                              (try case z3_2 => (first | exact one_cell_k _ _ | rfl | (intro u hu; simp at hu; (try rcases hu with rfl | rfl) <;> (try subst hu) <;> rfl)))
                              case z3_3 => (first | (simp only [maxLen]; omega) | omega)
                              (try case z3_4 => omega)
                              (try case z3_5 => (first | omega | (simp; omega)))
                              (try case z3_2 => (first | exact one_cell_k _ _ | rfl | (intro u hu; simp at hu; (try rcases hu with rfl | rfl) <;> (try subst hu) <;> rfl)))
                              (try case z3_2 => exact ⟨rfl, rfl⟩)
                              intro v' wa hown' hgrow _
                              have hbel1 := below_own hbx3 hown3 (by first | exact Nat.le_refl _ | omega) hgrow
                              have hR4 := hR.below hbel1 hw1
                              have hbel4 := bl_trans hbel hbel1
                              have HOW := Lib.hid hown'
                              obtain ⟨sa, sc, rfl⟩ := own_slice hown'
                              have h3 := HH3.out
                              rcases h3 with ⟨hfull, hn⟩ | ⟨hfull, _, h3⟩
                              · have HN := Lib.hid hn
                                have hf16 : (16 : Int) < (ol : Int) + 2 := by have := HOLN.out; omega
                                have hf16' : (16 : Int) < ((ol + 2 : Nat) : Int) := by omega
                                clear HH3 hn hfull hown'
                                obtain ⟨c0, c1, c2, _⟩ := blk_adr hR4
                                have cz0 := hR4.frozen 0
                                have cz1 := hR4.frozen 1
                                have cz2 := hR4.frozen 2
                                go_wp2_with fail
                                obtain ⟨r0, r1, r2, _⟩ := blk_adr (v := false) (n := 0) (((hR4.put 0 (.bool false)).put 1 (.int .u64 0)).put 2 (.int .u64 0))
                                refine bodyPost_ret (v := .tuple #[.agg #[.bool false, .int .u64 0, .int .u64 0], .int .i64 4]) (by simp [results, Tryd.results13, go_sem, r0, r1, r2, hi_zero, lo_zero]) rfl ⟨by rw [HN.out]; rfl, (by repeat (first | (with_reducible exact Below.refl _ _) | (with_reducible assumption) | (with_reducible refine bl_alloc ?_ _) | (with_reducible refine bl_drew ?_) | (with_reducible refine bl_drewN ?_ _) | (with_reducible refine bl_set ?_ (by first | (simp; done) | (simp; omega)) _) | (with_reducible refine bl_trans ?_ ‹_›)))⟩
                              · have hf16 : ¬ (16 : Int) < (ol : Int) + 2 := by have := HOLN.out; omega
                                have hf16' : ¬ (16 : Int) < ((ol + 2 : Nat) : Int) := by omega
                                clear HH3 hfull hown'
                                rcases h3 with ⟨hes, hfin⟩ | ⟨hes, h3⟩
                                · have HFN := Lib.hid hfin
                                  have e5 : ((k : Int) == (s.size : Int)) = true := by simp; omega
                                  clear hfin hes
                                  go_wp2_with fail
                                  go_meet
                                  case rel => exact ⟨G ++ [m], gap, rfl, by simp; omega, HGM.out, fun j hj => by have := HGJ.out j hj; simp; omega, HFN.out, by rw [← HLN.out, ← HBV.out]; exact HOW.out, hbel1⟩
                                · have e5 : ((k : Int) == (s.size : Int)) = false := by simp; omega
                                  have HH4 := Lib.hid h3
                                  clear h3
                                  obtain ⟨k1, hk1'⟩ : ∃ k1 : Nat, k1 = k + 1 := ⟨_, rfl⟩
                                  have hkk : (k : Int) + 1 = (k1 : Int) := by omega
                                  rw [← hk1'] at HH4
                                  have HKK := Lib.hid hkk
                                  have HK1 := Lib.hid hk1'
                                  have hk1s : k1 ≤ s.size := by omega
                                  clear hkk hk1'
                                  go_upto_region 44 with (fail)
                                  rw [HKK.out]
                                  have h3 := HH4.out
                                  rcases h3 with ⟨hz, hn⟩ | ⟨h1, h2, h3⟩ | ⟨h1, h2, h3⟩
                                  · have HN := Lib.hid hn
                                    have g1 : ¬ (k1 : Int) < s.size := by omega
                                    have g2 : ((k1 : Int) == (s.size : Int)) = true := by simp; omega
                                    clear HH4 hn hz
                                    obtain ⟨c0, c1, c2, _⟩ := blk_adr hR4
                                    have cz0 := hR4.frozen 0
                                    have cz1 := hR4.frozen 1
                                    have cz2 := hR4.frozen 2
                                    go_wp2_with fail
                                    obtain ⟨r0, r1, r2, _⟩ := blk_adr (v := false) (n := 0) (((hR4.put 0 (.bool false)).put 1 (.int .u64 0)).put 2 (.int .u64 0))
                                    refine bodyPost_ret (v := .tuple #[.agg #[.bool false, .int .u64 0, .int .u64 0], .int .i64 4]) (by simp [results, Tryd.results13, go_sem, r0, r1, r2, hi_zero, lo_zero]) rfl ⟨by rw [HN.out]; rfl, (by repeat (first | (with_reducible exact Below.refl _ _) | (with_reducible assumption) | (with_reducible refine bl_alloc ?_ _) | (with_reducible refine bl_drew ?_) | (with_reducible refine bl_drewN ?_ _) | (with_reducible refine bl_set ?_ (by first | (simp; done) | (simp; omega)) _) | (with_reducible refine bl_trans ?_ ‹_›)))⟩
                                  · have g1 : (k1 : Int) < s.size := by omega
                                    have g2 : (((s[k1]'h1).toNat : Int) == 58) = true := by rw [h2]; rfl
                                    clear h2 HH4
                                    rcases h3 with ⟨hj, hn⟩ | ⟨rfl, h3⟩
                                    · have HN := Lib.hid hn
                                      have g3 : 0 ≤ gI gap := by
                                        cases gap with
                                        | none => cases hj
                                        | some j => show (0 : Int) ≤ ((2 * j : Nat) : Int); omega
                                      clear hn hj
                                      obtain ⟨c0, c1, c2, _⟩ := blk_adr hR4
                                      have cz0 := hR4.frozen 0
                                      have cz1 := hR4.frozen 1
                                      have cz2 := hR4.frozen 2
                                      go_wp2_with fail
                                      obtain ⟨r0, r1, r2, _⟩ := blk_adr (v := false) (n := 0) (((hR4.put 0 (.bool false)).put 1 (.int .u64 0)).put 2 (.int .u64 0))
                                      refine bodyPost_ret (v := .tuple #[.agg #[.bool false, .int .u64 0, .int .u64 0], .int .i64 4]) (by simp [results, Tryd.results13, go_sem, r0, r1, r2, hi_zero, lo_zero]) rfl ⟨by rw [HN.out]; rfl, (by repeat (first | (with_reducible exact Below.refl _ _) | (with_reducible assumption) | (with_reducible refine bl_alloc ?_ _) | (with_reducible refine bl_drew ?_) | (with_reducible refine bl_drewN ?_ _) | (with_reducible refine bl_set ?_ (by first | (simp; done) | (simp; omega)) _) | (with_reducible refine bl_trans ?_ ‹_›)))⟩
                                    · have hgi : gI none = -1 := rfl
                                      rw [hgi]
                                      clear hgi
                                      have HGI := Lib.hid (show gI (some (G.length + 1)) = (ol : Int) + 2 by have := HOLN.out; show ((2 * (G.length + 1) : Nat) : Int) = _; omega)
                                      have HG2 := Lib.hid hG8
                                      rcases h3 with ⟨hz, hfin⟩ | ⟨hz, hnx⟩
                                      · have HFN := Lib.hid hfin
                                        have HHZ := Lib.hid hz
                                        have g3 : ((k1 : Int) + 1 == (s.size : Int)) = true := by have := HK1.out; simp; omega
                                        clear hfin hz
                                        go_wp2_with fail
                                        go_meet
                                        case rel => exact ⟨G ++ [m], some (G.length + 1), by rw [HGI.out] <;> go_num, by simp; omega, HGM.out, fun j hj => by cases hj; simp, HFN.out, by rw [← HLN.out, ← HBV.out]; exact HOW.out, hbel1⟩
                                      · have HNX := Lib.hid hnx
                                        have HHZ := Lib.hid hz
                                        have g3 : ((k1 : Int) + 1 == (s.size : Int)) = false := by have := HK1.out; simp; omega
                                        clear hnx hz
                                        go_wp2_with fail
                                        go_roundw
                                        case rel => exact ⟨k + 2, G ++ [m], some (G.length + 1), by have := HK1.out; subst this; go_num, by rw [HGI.out] <;> go_num, HNX.out, by rw [← HLN.out, ← HBV.out]; exact HOW.out, hbel1⟩
                                        case measure => have := HK1.out; simp [intOf] <;> omega
                                  · have g1 : (k1 : Int) < s.size := by omega
                                    have g2 : (((s[k1]'h1).toNat : Int) == 58) = false := by simp; omega
                                    have g3 : ((k1 : Int) == (s.size : Int)) = false := by simp; omega
                                    have HNX := Lib.hid h3
                                    clear h2 h3 HH4
                                    go_wp2_with fail
                                    go_roundw
                                    case rel => exact ⟨k1, G ++ [m], gap, rfl, rfl, HNX.out, by rw [← HLN.out, ← HBV.out]; exact HOW.out, hbel1⟩
                                    case measure => have := HK1.out; simp [intOf] <;> omega
                · obtain rfl : x = s.size := by have := hat.1; omega
                  have hxI : ¬ ((s.size : Nat) : Int) < s.size := by omega
                  obtain ⟨_, h1, h2, h3, ⟨h4, _⟩ | ⟨_, h4⟩⟩ := hat
                  · exact absurd h4 hx
                  · go_wp2_with fail
                    go_meet
                    case rel => exact ⟨G, gap, rfl, by omega, h1, h2, h4, hown, hbx⟩
      · have e58 : decide ((58 : UInt8) ∈ bts s) = false := by simp [h58]
        rw [e58]
        have hP : parseA (bts s) = (refFour none [] (bts s)).map fun t => (false, valB t) := by unfold parseA; rw [if_neg h58, refFour_four]
        have HP := Lib.hid (HPA.out.symm.trans hP)
        have HF := Lib.hid (fun w => rfour_c s w hs)
        have ht4 : ∀ t, refFour none [] (bts s) = some t → t.length = 4 ∧ ∀ k ∈ t, k ≤ 255 := fun t h => by
          rw [refFour_four] at h
          unfold four at h
          split at h
          · rename_i h4
            obtain ⟨q1, q2⟩ := mapM8_lt h
            exact ⟨by omega, q2⟩
          · cases h
        have HT4 := Lib.hid ht4
        clear e58 hP HPA ht4
        generalize refFour none [] (bts s) = R at *
        go_wp2_with fail
        with_reducible refine (HF.out _).mono ?_
        rintro e w2 ⟨hF, hb⟩
        have hR2 := hR.after hb
        have hbel2 := bl_trans hbel hb
        clear HF
        rcases hF with ⟨rfl, v, rfl⟩ | ⟨t, v, rfl, rfl, hown⟩
        · have hn : P = none := HP.out
          have HN := Lib.hid hn
          clear hn HP
          obtain ⟨c0, c1, c2, _⟩ := blk_adr hR2
          have cz0 := hR2.frozen 0
          have cz1 := hR2.frozen 1
          have cz2 := hR2.frozen 2
          go_wp2_with fail
          obtain ⟨r0, r1, r2, _⟩ := blk_adr (v := false) (n := 0) (((hR2.put 0 (.bool false)).put 1 (.int .u64 0)).put 2 (.int .u64 0))
          refine bodyPost_ret (v := .tuple #[.agg #[.bool false, .int .u64 0, .int .u64 0], .int .i64 4]) (by simp [results, Tryd.results13, go_sem, r0, r1, r2, hi_zero, lo_zero]) rfl ⟨by rw [HN.out]; rfl, (by repeat (first | (with_reducible exact Below.refl _ _) | (with_reducible assumption) | (with_reducible refine bl_alloc ?_ _) | (with_reducible refine bl_drew ?_) | (with_reducible refine bl_drewN ?_ _) | (with_reducible refine bl_set ?_ (by first | (simp; done) | (simp; omega)) _) | (with_reducible refine bl_trans ?_ ‹_›)))⟩
        · obtain ⟨ht4, ht5⟩ := HT4.out t rfl
          obtain ⟨g, cap, rfl, g1, g2, g3, g4, g5⟩ := own_form hown (by omega)
          have HO := Lib.hid (fun w3 (hb : Below w2.heap.size w2 w3) => rofbytes_c g 0 4 cap t w3 ht4 (fun b hb => by have := ht5 b hb; omega) (by omega) (by omega) (fun j hj => by rw [Nat.zero_add, hb.cell (p := ⟨g, j, none⟩) g2]; exact g4 j _ (by rw [get_bytes (by simpa [ints] using hj)]; simp [ints, List.getD_eq_getElem?_getD, List.getElem?_eq_getElem hj])) (Nat.lt_of_lt_of_le g2 hb.size))
          have hn : P = some (false, valB t) := HP.out
          have HN := Lib.hid hn
          have hv : ((4 : Nat) == 16) = false := rfl
          rw [hv] at HO
          clear hn HP HT4 ht5 g4 g5 hown hv
          generalize valB t = V at *
          obtain ⟨c0, c1, c2, _⟩ := blk_adr hR2
          have cz0 := hR2.frozen 0
          have cz1 := hR2.frozen 1
          have cz2 := hR2.frozen 2
          go_wp2_with fail
          with_reducible refine (HO.out _ (Below.refl _ _)).mono ?_
          rintro e w3 ⟨rfl, hb3⟩
          have hR3 := hR2.after hb3
          have hbel3 := bl_trans hbel2 hb3
          clear cz0 cz1 cz2 c0 c1 c2
          obtain ⟨c0, c1, c2, _⟩ := blk_adr hR3
          have cz0 := hR3.frozen 0
          have cz1 := hR3.frozen 1
          have cz2 := hR3.frozen 2
          rw [AddrV_eq]
          unfold AddrC
          go_wp2_with fail
          obtain ⟨r0, r1, r2, _⟩ := blk_adr (v := false) (n := V) (((hR3.put 0 (.bool false)).put 1 (.int .u64 (hi V))).put 2 (.int .u64 (lo V)))
          refine bodyPost_ret (v := .tuple #[.agg #[.bool false, .int .u64 (hi V), .int .u64 (lo V)], .int .i64 0]) (by simp [results, Tryd.results13, go_sem, r0, r1, r2]) rfl ⟨by rw [HN.out]; rfl, (by repeat (first | (with_reducible exact Below.refl _ _) | (with_reducible assumption) | (with_reducible refine bl_alloc ?_ _) | (with_reducible refine bl_drew ?_) | (with_reducible refine bl_drewN ?_ _) | (with_reducible refine bl_set ?_ (by first | (simp; done) | (simp; omega)) _) | (with_reducible refine bl_trans ?_ ‹_›)))⟩
end Go.Proofs.YtgdgklibilddgaaDoor
