/- Addresses: a short one printed. -/
import Derived.Test.YtgdgklibilddgaaDoorAdI
namespace Go.Proofs.YtgdgklibilddgaaDoor
open Go.RowKit

set_option maxRecDepth 100000 in
set_option maxHeartbeats 3200000 in
theorem print4_c (n : Nat) (w : World) (hn : n < 4294967296) (hG : Glob w) :
    Calls Tryd.prog 26 #[AddrV false n] w fun e w' => e = .returned (.string ⟨(print4 n).toArray⟩) ∧ Below w.heap.size w w' := by
  have HB := Lib.hid (fun w => bytes_c false n w (Nat.lt_trans hn (by decide)) (by simp [rightB, widthN]; exact hn))
  obtain ⟨i0, hi0, hz0, hz1, hz2⟩ := info_parts info_str
  rw [AddrV_eq] at *
  unfold AddrC at *
  go_enter Tryd.func26, Tryd.ntmps26
  go_wp2_with fail
  refine (HB.out _).mono ?_
  rintro e w1 ⟨rfl, hb1⟩
  have hbt := bts_txt (bytesB 4 n)
  have hTs : (txt (bytesB (byteN false) n)).size = 4 := by
    have := congrArg List.length hbt
    rw [List.length_map, bytesB_len] at this
    exact (by simpa [bts] using this : (txt (bytesB 4 n)).size = 4)
  have hbd : ∀ x ∈ bytesB 4 n, x < 256 := fun x hx => bytesB_lt hx
  have hcv := Lib.run_convert_string_bytes (P := Tryd.prog) w1 9 34 5 (txt (bytesB (byteN false) n)) Tryd.underlying9 Tryd.underlying34 Tryd.underlying5
  have hbw := Lib.bytesWorld_below w1 5 (txt (bytesB (byteN false) n))
  have hcell := Lib.bytesWorld_cell w1 5 (txt (bytesB (byteN false) n))
  have hszb := Lib.bytesWorld_size w1 5 (txt (bytesB (byteN false) n))
  have hbel1 : Below w.heap.size w w1 := bl_trans (by exact (by repeat (first | (with_reducible exact Below.refl _ _) | (with_reducible assumption) | (with_reducible refine bl_alloc ?_ _) | (with_reducible refine bl_drew ?_) | (with_reducible refine bl_drewN ?_ _) | (with_reducible refine bl_set ?_ (by first | (simp; done) | (simp; omega)) _) | (with_reducible refine bl_trans ?_ ‹_›)))) hb1
  have hG1 := hG.after hbel1
  have hbel2 := bl_trans hbel1 hbw
  have hG2 := hG1.after hbw
  rw [hTs] at hcv
  have hcell2 : ∀ k (h : k < (bytesB 4 n).length), (Lib.bytesWorld w1 5 (txt (bytesB (byteN false) n))).cell? ⟨w1.heap.size, k, none⟩ = some (.int .u8 ((bytesB 4 n)[k] : Nat)) := by
    intro k h
    rw [hcell k (by rw [hTs]; rw [bytesB_len] at h; exact h)]
    have e : (txt (bytesB (byteN false) n)).data.toList = (bytesB 4 n).map UInt8.ofNat := hbt
    rw [e]
    have hx := hbd _ (List.getElem_mem h)
    simp [List.getD, h]
    omega
  have HC := Lib.hid hcell2
  have HBD := Lib.hid hbd
  generalize Lib.bytesWorld w1 5 (txt (bytesB (byteN false) n)) = wb at *
  generalize grownCap w1 4 0 5 = cap at *
  generalize txt (bytesB (byteN false) n) = T at *
  have hlt1 : w1.heap.size < wb.heap.size := by omega
  clear hcell hcell2 hbw hszb hbt hbd hb1 hTs
  have hBl : (bytesB 4 n).length = 4 := bytesB_len 4 n
  have hP : print4 n = Lib.join ((bytesB 4 n).map Lib.decDigits) [46] := rfl
  have HBL := Lib.hid hBl
  have HP := Lib.hid hP
  generalize bytesB 4 n = B at *
  clear hBl hP
  go_wp2_with fail
  go_loopw [3, 10] (fun so i wr => ∃ k : Nat, k ≤ 4 ∧ i = .int .i64 k ∧ wr.ownsRow wb.heap.size 9 1 so k (strsV ((B.take k).map itoaT)) ∧ Below wb.heap.size wb wr) (fun _ i _ => 4 - (intOf i).toNat)
  case atStart => exact ⟨0, by omega, rfl, World.ownsRow_nil _ _ _ _, Below.refl _ _⟩
  case round =>
    obtain ⟨k, hk, rfl, hown, hbel⟩ := hrel
    have hsz := hbel.size
    by_cases hlt : k < 4
    · have d1 : (k : Int) < 4 := by omega
      have hkL : k < B.length := by rw [HBL.out]; exact hlt
      have hcell := (hbel.cell (p := ⟨w1.heap.size, k, none⟩) hlt1).trans (HC.out k hkL)
      have hx6 := HBD.out B[k] (List.getElem_mem hkL)
      have hT : strsV ((B.take (k + 1)).map itoaT) = strsV ((B.take k).map itoaT) ++ [.string (itoaT B[k])] := by rw [List.take_succ_eq_append_getElem hkL]; simp only [strsV, List.map_append, List.map_cons, List.map_nil]
      have HT := Lib.hid hT
      have HF := Lib.hid (itoa_c B[k] wr (by omega) (hG2.after hbel))
      generalize B[k] = x at *
      clear hT hkL
      go_wp2_with fail
      refine HF.out.mono ?_
      rintro e w3 ⟨rfl, hb3⟩
      have hown3 := own_after hown hb3
      have hbel3 := bl_trans hbel hb3
      have hsz3 := hbel3.size
      clear hown hbel hb3 hsz hcell
      go_wp2_with (at_builtin; refine wpList_append_own _ rfl _ _ 87 rfl wb.heap.size 9 i0 (.string ByteArray.empty) 1 16 Tryd.underlying87 hi0 hz0 hz1 hz2 rfl (by decide) _ _ _ rfl (hown3.alloc _) ⟨w3.heap.size, 0, none⟩ 1 1 [.string (itoaT x)] rfl rfl ?z1_1 ?z1_2 ?z1_3 ?z1_4 ?z1_5 ?_)
      (try case z1_1 => exact cell_list _ _ _)
      (try case z1_2 => (first | exact one_cell_k _ _ | (intro u hu; simp at hu; (try rcases hu with rfl | rfl) <;> (try subst hu) <;> rfl)))
      case z1_3 => (first | (simp only [maxLen]; omega) | omega)
      case z1_4 => omega
      case z1_5 => (first | omega | (simp; omega))
      intro v' wa hown' hgrow _
      have hbel1 := below_own hbel3 hown3 (Nat.le_refl _) hgrow
      go_wp2_with fail
      go_roundw
      case rel => exact ⟨k + 1, by omega, by go_num, by rw [HT.out, List.map_take]; exact hown', hbel1⟩
      case measure => simp [intOf]; omega
    · obtain rfl : k = 4 := by omega
      have d1 : ¬ (4 : Int) < 4 := by omega
      rw [List.take_of_length_le (by rw [HBL.out]; exact Nat.le_refl _)] at hown
      have hb : (B.map itoaT).map bts = B.map Lib.decDigits := by rw [List.map_map]; apply List.map_congr_left; intro x _; exact bts_mk _
      have hj : Lib.join ((B.map itoaT).map bts) (bts ⟨#[46]⟩) = print4 n := by rw [hb, HP.out]; rfl
      have hjl : (print4 n).length ≤ 1000000 := by
        rw [HP.out]
        have := join_len (c := [46]) (m := 3) (l := B.map Lib.decDigits) (fun p hp => by
          obtain ⟨x, hx, rfl⟩ := List.mem_map.1 hp
          exact (by decide +kernel : ∀ x, x < 256 → (Lib.decDigits x).length ≤ 3) x (HBD.out x hx))
        rw [List.length_map, HBL.out] at this
        refine Nat.le_trans this ?_
        simp
      have HJ := Lib.hid (join_c (xs := B.map itoaT) ⟨#[46]⟩ wr (by rw [List.length_map, HBL.out]; exact hown) (by rw [hj]; exact hjl) (by rw [List.length_map, HBL.out]; omega))
      rw [hj] at HJ
      clear hj hb hjl
      go_wp2_with fail
      refine HJ.out.mono ?_
      rintro e w3 ⟨rfl, hb3⟩
      go_wp2_with fail
      go_ret
      exact ⟨rfl, bl_trans (bl_trans hbel2 hbel) hb3⟩
end Go.Proofs.YtgdgklibilddgaaDoor
