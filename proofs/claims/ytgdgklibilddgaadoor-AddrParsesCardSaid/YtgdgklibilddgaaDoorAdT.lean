/- Addresses: bytes read, both ways. -/
import Derived.Test.YtgdgklibilddgaaDoorAdO
namespace Go.Proofs.YtgdgklibilddgaaDoor
open Go.RowKit

/-- the number of a row of bits of the call's own -/
theorem refnum_bits {w : World} {base n x : Nat} {v : Value} (hown : w.ownsRow base 3 1 v n (rowV (bitI x) n)) (hx : x < 2 ^ n) (hn1 : 0 < n) (hn : n ≤ 128) :
    Calls Tryd.prog 66 #[v] w fun e w' => e = .returned (numV x) ∧ Below w.heap.size w w' := by
  obtain ⟨g, cap, rfl, g1, g2, g3, g4, g5⟩ := own_form hown hn1
  have hx2 : x < 2 ^ 128 := Nat.lt_of_lt_of_le hx (Nat.pow_le_pow_right (by omega) hn)
  have h := refnum_c g 0 n cap (bitI x) w (by omega) (bitI_bd x) (fun j hj => by
    unfold bitI
    rw [Nat.div_eq_of_lt (Nat.lt_of_lt_of_le hx (Nat.pow_le_pow_right (by omega) hj))]; rfl) g2 (fun j hj => by rw [Nat.zero_add]; exact g4 j _ (rowV_get _ hj))
  rw [sumB_bits (fun _ => rfl), Nat.pow_zero, Nat.div_one, Nat.mod_eq_of_lt hx2] at h
  exact h
theorem pow256 (k : Nat) : 256 ^ k = 2 ^ (8 * k) := by rw [Nat.pow_mul]
theorem bytes_room {B : List Nat} (hB : ∀ b ∈ B, b < 256) (hl : B.length ≤ 16) : valB B < 2 ^ (8 * B.length) ∧ valB B < 340282366920938463463374607431768211456 := by
  have h := valB_lt' B hB
  rw [pow256] at h
  exact ⟨h, Nat.lt_of_lt_of_le h (Nat.pow_le_pow_right (by omega) (show 8 * B.length ≤ 128 by omega))⟩
set_option maxRecDepth 100000 in
set_option maxHeartbeats 3200000 in
theorem rofbytes_c (g o n c : Nat) (B : List Nat) (w : World) (hBl : B.length = n) (hB : ∀ b ∈ B, b < 256) (h1 : 0 < n) (h16 : n ≤ 16) (hc : ∀ j, (h : j < B.length) → w.cell? ⟨g, o + j, none⟩ = some (.int .u8 (B[j] : Nat))) (hg : g < w.heap.size) :
    Calls Tryd.prog 39 #[.slice (some ⟨g, o, none⟩) n c] w fun e w' => e = .returned (AddrV (n == 16) (valB B)) ∧ Below w.heap.size w w' := by
  obtain ⟨hV1, hV2⟩ := bytes_room hB (by rw [hBl]; exact h16)
  have HC := Lib.hid hc
  have HBD := Lib.hid hB
  have HBIT := Lib.hid (fun t x r (ht : B[B.length - 1 - t]? = some x) (hl : t < B.length) (hr : r < 8) => valB_bit hB ht hl hr)
  have HN := Lib.hid hBl
  rw [hBl] at HBIT hV1
  have HV1 := Lib.hid hV1
  obtain ⟨i0, hi0, hz0, hz1, hz2⟩ := info_parts info_int
  clear hc hB hV1 hBl
  generalize valB B = V at *
  go_enter Tryd.func39, Tryd.ntmps39
  go_wp2_with fail
  have hR : Blk (w.alloc (Obj.cells #[.bool false, .int .u64 0, .int .u64 0] 26)) (w.heap.size) 26 (AddrC false 0) := (Blk.new' _ _ _ _ (by simp) : Blk (w.alloc (Obj.cells #[.bool false, .int .u64 0, .int .u64 0] 26)) (w.heap.size) 26 (AddrC false 0))
  have hbel : Below w.heap.size w (w.alloc (Obj.cells #[.bool false, .int .u64 0, .int .u64 0] 26)) := (by repeat (first | (with_reducible exact Below.refl _ _) | (with_reducible assumption) | (with_reducible refine bl_alloc ?_ _) | (with_reducible refine bl_drew ?_) | (with_reducible refine bl_drewN ?_ _) | (with_reducible refine bl_set ?_ (by first | (simp; done) | (simp; omega)) _) | (with_reducible refine bl_trans ?_ ‹_›)))
  have hsz : (w.alloc (Obj.cells #[.bool false, .int .u64 0, .int .u64 0] 26)).heap.size = w.heap.size + 1 := by simp
  generalize w.alloc (Obj.cells #[.bool false, .int .u64 0, .int .u64 0] 26) = w1 at *
  rw [← hsz]
  have hwl : w.heap.size < w1.heap.size := by omega
  clear hsz
  have hown : (w1.alloc (.cells #[] 3)).ownsRow w1.heap.size 3 1 (.slice (some ⟨w1.heap.size, 0, none⟩) 0 0) 0 [] := own_empty w1 _ _ (Nat.le_refl _)
  have hbx : Below w1.heap.size w1 (w1.alloc (.cells #[] 3)) := (by repeat (first | (with_reducible exact Below.refl _ _) | (with_reducible assumption) | (with_reducible refine bl_alloc ?_ _) | (with_reducible refine bl_drew ?_) | (with_reducible refine bl_drewN ?_ _) | (with_reducible refine bl_set ?_ (by first | (simp; done) | (simp; omega)) _) | (with_reducible refine bl_trans ?_ ‹_›)))
  generalize w1.alloc (.cells #[] 3) = w2 at *
  have hg1 : g < w1.heap.size := Nat.lt_of_lt_of_le hg hbel.size
  go_loopw [3, 4] (fun l i wr => ∃ t : Nat, t ≤ n ∧ i = .int .i64 ((n : Int) - 1 - t) ∧ wr.ownsRow w1.heap.size 3 1 l (8 * t) (rowV (bitI V) (8 * t)) ∧ Below w1.heap.size w1 wr) (fun _ i _ => (intOf i + 1).toNat)
  case atStart => exact ⟨0, by omega, by first | go_num | (congr 1; omega), hown, hbx⟩
  case round =>
    clear hown hbx
    obtain ⟨t, ht, rfl, hown, hbx⟩ := hrel
    have hz := hbx.size
    by_cases hlt : t < n
    · obtain ⟨K, hK⟩ : ∃ K : Nat, (n : Int) - 1 - t = (K : Int) := ⟨n - 1 - t, by omega⟩
      have hK2 : K = n - 1 - t := by omega
      have hKl : K < B.length := by rw [HN.out]; omega
      rw [hK]
      have d1 : (0 : Int) ≤ K := by omega
      have x0 := ((hbel.trans (hbx.mono hbel.size)).cell (p := ⟨g, o + K, none⟩) hg).trans (HC.out K hKl)
      have hx : B[K] < 256 := HBD.out _ (List.getElem_mem hKl)
      have HB := Lib.hid (fun r => HBIT.out t B[K] r (by rw [← hK2]; exact List.getElem?_eq_getElem hKl) hlt)
      have hK3 : (K : Int) < n := by omega
      have hK4 : K < n := by omega
      have HK := Lib.hid hK
      clear hK hK2
      generalize B[K] = x at *
      go_wp2_with fail
      go_loopw [3, 5, 6] (fun l vn vk ws => ∃ r : Nat, r ≤ 8 ∧ vk = .int .i64 r ∧ vn = .int .i64 ((x / 2 ^ r : Nat)) ∧ ws.ownsRow w1.heap.size 3 1 l (8 * t + r) (rowV (bitI V) (8 * t + r)) ∧ Below w1.heap.size w1 ws) (fun _ _ i _ => 8 - (intOf i).toNat)
      case atStart => exact ⟨0, by omega, rfl, by first | rfl | (simp; done) | (simp; go_num), by simpa using hown, hbx⟩
      case round =>
        clear hown hbx hz
        obtain ⟨r, hr, rfl, rfl, hown, hbx⟩ := hrel
        have hz := hbx.size
        by_cases hl8 : r < 8
        · have d2 : (r : Int) < 8 := by omega
          have hbi : bitI V (8 * t + r) = ((x / 2 ^ r % 2 : Nat) : Int) := by unfold bitI; rw [HB.out r hl8]
          have hrow : rowV (bitI V) (8 * t + r + 1) = rowV (bitI V) (8 * t + r) ++ [.int .i64 ((x / 2 ^ r % 2 : Nat) : Int)] := by rw [rowV_succ, hbi]
          have HR := Lib.hid hrow
          have hdv : x / 2 ^ (r + 1) = x / 2 ^ r / 2 := by rw [Nat.pow_succ, Nat.div_div_eq_div_mul]
          have HDV := Lib.hid hdv
          have hxr : x / 2 ^ r ≤ x := Nat.div_le_self _ _
          generalize x / 2 ^ r = y at *
          clear hbi hrow hdv
          go_wp2_with (at_builtin; refine wpList_append_own _ rfl _ _ 56 rfl w1.heap.size 3 i0 (.int .i64 0) 1 8 Tryd.underlying56 hi0 hz0 hz1 hz2 rfl (by decide) _ _ _ rfl (hown.alloc _) ⟨wr.heap.size, 0, none⟩ 1 1 [.int .i64 ((y % 2 : Nat) : Int)] rfl rfl ?z1_1 ?z1_2 ?z1_3 ?z1_4 ?z1_5 ?_)
          (try case z1_1 => exact cell_list _ _ _)
          (try case z1_2 => (first | exact one_cell_k _ _ | (intro u hu; simp at hu; (try rcases hu with rfl | rfl) <;> (try subst hu) <;> rfl)))
          case z1_3 => (first | (simp only [maxLen]; omega) | omega)
          case z1_4 => omega
          case z1_5 => (first | omega | (simp; omega))
          intro v' wa hown' hgrow _
          have hbel1 := below_own hbx hown (by first | exact Nat.le_refl _ | omega) hgrow
          go_wp2_with fail
          go_roundw
          case rel => exact ⟨r + 1, by omega, by go_num, by rw [HDV.out]; go_num, by rw [show 8 * t + (r + 1) = 8 * t + r + 1 by omega, HR.out]; exact hown', hbel1⟩
          case measure => simp [intOf]; omega
        · obtain rfl : r = 8 := by omega
          go_wp2_with fail
          go_roundw
          case rel => exact ⟨t + 1, by omega, by have := HK.out; first | go_num | (congr 1; omega), hown, hbx⟩
          case measure => have := HK.out; simp [intOf] <;> omega
    · obtain rfl : t = n := by omega
      have d1 : ¬ (0 : Int) ≤ (t : Int) - 1 - t := by omega
      have HNUM := Lib.hid (refnum_bits hown HV1.out (by omega) (by omega))
      have hR2 := hR.below hbx (by omega)
      have hbb := bl_trans hbel hbx
      by_cases h16e : t = 16
      · have e16 : ((t : Int) == 16) = true := by simp; omega
        have e16' : (t == 16) = true := by simp [h16e]
        go_wp2_with fail
        refine HNUM.out.mono ?_
        rintro e w3 ⟨rfl, hb⟩
        replace hR2 := hR2.after hb
        replace hbb := bl_trans hbb hb
        obtain ⟨c0, c1, c2, _⟩ := blk_adr hR2
        have cz0 := hR2.frozen 0
        have cz1 := hR2.frozen 1
        have cz2 := hR2.frozen 2
        unfold numV
        go_wp2_with fail
        refine bodyPost_ret (v := .agg #[.bool true, .int .u64 (hi V), .int .u64 (lo V)]) (results_cell_row (t := 26) Tryd.results39 _ _ w.heap.size _ (0, 0) _ rfl (((hR2.put 0 _).put 1 _).put 2 _) Tryd.underlying26 rfl (by kernel_rfl)) rfl ⟨by rw [e16']; rfl, (by repeat (first | (with_reducible exact Below.refl _ _) | (with_reducible assumption) | (with_reducible refine bl_alloc ?_ _) | (with_reducible refine bl_drew ?_) | (with_reducible refine bl_drewN ?_ _) | (with_reducible refine bl_set ?_ (by first | (simp; done) | (simp; omega)) _) | (with_reducible refine bl_trans ?_ ‹_›)))⟩
      · have e16 : ((t : Int) == 16) = false := by simp; omega
        have e16' : (t == 16) = false := by simp [h16e]
        go_wp2_with fail
        refine HNUM.out.mono ?_
        rintro e w3 ⟨rfl, hb⟩
        replace hR2 := hR2.after hb
        replace hbb := bl_trans hbb hb
        obtain ⟨c0, c1, c2, _⟩ := blk_adr hR2
        have cz0 := hR2.frozen 0
        have cz1 := hR2.frozen 1
        have cz2 := hR2.frozen 2
        unfold numV
        go_wp2_with fail
        refine bodyPost_ret (v := .agg #[.bool false, .int .u64 (hi V), .int .u64 (lo V)]) (results_cell_row (t := 26) Tryd.results39 _ _ w.heap.size _ (0, 0) _ rfl (((hR2.put 0 _).put 1 _).put 2 _) Tryd.underlying26 rfl (by kernel_rfl)) rfl ⟨by rw [e16']; rfl, (by repeat (first | (with_reducible exact Below.refl _ _) | (with_reducible assumption) | (with_reducible refine bl_alloc ?_ _) | (with_reducible refine bl_drew ?_) | (with_reducible refine bl_drewN ?_ _) | (with_reducible refine bl_set ?_ (by first | (simp; done) | (simp; omega)) _) | (with_reducible refine bl_trans ?_ ‹_›)))⟩
end Go.Proofs.YtgdgklibilddgaaDoor
