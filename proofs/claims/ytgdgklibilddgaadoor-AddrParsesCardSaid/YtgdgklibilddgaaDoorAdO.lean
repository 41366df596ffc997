/- Addresses: the reference's bytes. -/
import Derived.Test.YtgdgklibilddgaaDoorAdM
namespace Go.Proofs.YtgdgklibilddgaaDoor
open Go.RowKit

theorem byte_up (n m r : Nat) (hr : r < 8) : 2 * (n / 2 ^ (m + 8 - r) % 2 ^ r) + n / 2 ^ (m + 7 - r) % 2 = n / 2 ^ (m + 8 - (r + 1)) % 2 ^ (r + 1) := by
  have h := bit_up n (m + 7 - r) r
  rw [show m + 7 - r + 1 = m + 8 - r by omega] at h
  rw [show m + 8 - (r + 1) = m + 7 - r by omega, h]
set_option maxRecDepth 100000 in
set_option maxHeartbeats 3200000 in
theorem rbytes_c (v6 : Bool) (n : Nat) (w : World) (hn : n < 340282366920938463463374607431768211456) :
    Calls Tryd.prog 16 #[AddrV v6 n] w fun e w' => ∃ v, e = .returned v ∧ w'.ownsRow w.heap.size 5 1 v (byteN v6) (bytesV (ints (bytesB (byteN v6) n))) ∧ Below w.heap.size w w' := by
  obtain ⟨i0, hi0, hz0, hz1, hz2⟩ := info_parts info_u8
  have HW := Lib.hid (fun w => rwidth_c v6 n w)
  rw [byteN_w] at HW
  have hb4 : 4 ≤ byteN v6 ∧ byteN v6 ≤ 16 := by cases v6 <;> decide
  have HB := Lib.hid (fun i (hi : i < byteN v6) => bytesB_mod (n := n) hi)
  have HBI := Lib.hid (fun (w : World) => bits_f (hi n) (lo n) w (hi_nn _) (hi_lt _) (lo_nn _) (lo_lt _))
  rw [num_hi_lo hn] at HBI
  rw [AddrV_eq] at *
  unfold AddrC at *
  generalize byteN v6 = kb at *
  go_enter Tryd.func16, Tryd.ntmps16
  go_wp2_with fail
  have hA : Blk (w.alloc (Obj.cells #[.bool v6, .int .u64 (hi n), .int .u64 (lo n)] 26)) (w.heap.size) 26 (AddrC v6 n) := (Blk.new' _ _ _ _ (by simp) : Blk (w.alloc (Obj.cells #[.bool v6, .int .u64 (hi n), .int .u64 (lo n)] 26)) (w.heap.size) 26 (AddrC v6 n))
  have hbel : Below w.heap.size w (w.alloc (Obj.cells #[.bool v6, .int .u64 (hi n), .int .u64 (lo n)] 26)) := (by repeat (first | (with_reducible exact Below.refl _ _) | (with_reducible assumption) | (with_reducible refine bl_alloc ?_ _) | (with_reducible refine bl_drew ?_) | (with_reducible refine bl_drewN ?_ _) | (with_reducible refine bl_set ?_ (by first | (simp; done) | (simp; omega)) _) | (with_reducible refine bl_trans ?_ ‹_›)))
  have hsz : (w.alloc (Obj.cells #[.bool v6, .int .u64 (hi n), .int .u64 (lo n)] 26)).heap.size = w.heap.size + 1 := by simp
  generalize w.alloc (Obj.cells #[.bool v6, .int .u64 (hi n), .int .u64 (lo n)] 26) = w0 at *
  refine (HBI.out _).mono ?_
  rintro e w1 ⟨gx, cx, rfl, hcx, hgx, hgx2, hxc, _, hb⟩
  replace hA := hA.after hb
  have hs1 := hb.size
  replace hbel := bl_trans hbel hb
  have HX := Lib.hid hxc
  clear hxc hb
  have hlA := hA.lt
  obtain ⟨c0, c1, c2, _⟩ := blk_adr hA
  have cz0 := hA.frozen 0
  have cz1 := hA.frozen 1
  have cz2 := hA.frozen 2
  go_wp2_with fail
  have hown : (w1.alloc (.cells #[] 5)).ownsRow w1.heap.size 5 1 (.slice (some ⟨w1.heap.size, 0, none⟩) 0 0) 0 [] := own_empty w1 _ _ (Nat.le_refl _)
  have hbx : Below w1.heap.size w1 (w1.alloc (.cells #[] 5)) := (by repeat (first | (with_reducible exact Below.refl _ _) | (with_reducible assumption) | (with_reducible refine bl_alloc ?_ _) | (with_reducible refine bl_drew ?_) | (with_reducible refine bl_drewN ?_ _) | (with_reducible refine bl_set ?_ (by first | (simp; done) | (simp; omega)) _) | (with_reducible refine bl_trans ?_ ‹_›)))
  generalize w1.alloc (.cells #[] 5) = w2 at *
  refine (HW.out _).mono ?_
  rintro e w3 ⟨rfl, hb⟩
  replace hown := own_after hown hb
  replace hbx := bl_trans hbx hb
  clear hb hA c0 c1 c2 cz0 cz1 cz2
  go_wp2_with fail
  go_loopw [4, 5] (fun b i wr => ∃ t : Nat, t ≤ kb ∧ i = .int .i64 (8 * (kb : Int) - 1 - 8 * t) ∧ wr.ownsRow w1.heap.size 5 1 b t (bytesV (ints ((bytesB kb n).take t))) ∧ Below w1.heap.size w1 wr) (fun _ i _ => (intOf i + 8).toNat)
  case atStart => exact ⟨0, by omega, by go_num, hown, hbx⟩
  case round =>
    clear hown hbx
    obtain ⟨t, ht, rfl, hown, hbx⟩ := hrel
    have hz := hbx.size
    by_cases hlt : t < kb
    · obtain ⟨K, hK⟩ : ∃ K : Nat, 8 * (kb : Int) - 1 - 8 * t = (K : Int) := ⟨8 * (kb - 1 - t) + 7, by omega⟩
      have hK2 : K = 8 * (kb - 1 - t) + 7 := by omega
      rw [hK]
      have HK2 := Lib.hid hK2
      have d1 : 0 ≤ (K : Int) := by omega
      have hK3 : K < 128 := by omega
      have HK := Lib.hid hK
      clear hK hK2
      go_wp2_with fail
      go_loopw [6, 7] (fun vn vi ws => ∃ r : Nat, r ≤ 8 ∧ vi = .int .i64 r ∧ vn = .int .i64 ((n / 2 ^ (8 * (kb - 1 - t) + 8 - r) % 2 ^ r : Nat)) ∧ Below wr.heap.size wr ws) (fun _ i _ => 8 - (intOf i).toNat)
      case atStart => exact ⟨0, by omega, rfl, by simp [Nat.mod_one], Below.refl _ _⟩
      case round =>
        obtain ⟨r, hr, rfl, rfl, hbs⟩ := hrel
        have hpr : n / 2 ^ (8 * (kb - 1 - t) + 8 - r) % 2 ^ r < 2 ^ r := Nat.mod_lt _ (Nat.two_pow_pos r)
        have hpr2 : 2 ^ r ≤ 256 := by
          have := Nat.pow_le_pow_right (n := 2) (by omega) hr
          exact this
        by_cases hl8 : r < 8
        · have d2 : (r : Int) < 8 := by omega
          have hup := byte_up n (8 * (kb - 1 - t)) r hl8
          have hKr : K - r = 8 * (kb - 1 - t) + 7 - r := by have := HK2.out; omega
          have hrK : r ≤ K := by have := HK2.out; omega
          have x0 : wr.cell? ⟨gx, K - r, none⟩ = some (.int .i64 (bitI n (K - r))) := (hbs.cell (p := ⟨gx, _, none⟩) (Nat.lt_of_lt_of_le hgx2 hz)).trans ((hbx.cell (p := ⟨gx, _, none⟩) hgx2).trans (HX.out _ (by omega)))
          have hbi : bitI n (K - r) = ((n / 2 ^ (8 * (kb - 1 - t) + 7 - r) % 2 : Nat) : Int) := by rw [hKr]; rfl
          rw [hbi] at x0
          have HUP := Lib.hid hup
          have hy : n / 2 ^ (8 * (kb - 1 - t) + 7 - r) % 2 < 2 := Nat.mod_lt _ (by omega)
          generalize n / 2 ^ (8 * (kb - 1 - t) + 7 - r) % 2 = y at *
          generalize n / 2 ^ (8 * (kb - 1 - t) + 8 - r) % 2 ^ r = x at *
          clear hup hbi hKr
          go_wp2_with fail
          go_roundw
          case rel => exact ⟨r + 1, by omega, by go_num, by rw [← HUP.out]; go_num, hbs⟩
          case measure => simp [intOf]; omega
        · obtain rfl : r = 8 := by omega
          have hbt : ints ((bytesB kb n).take (t + 1)) = ints ((bytesB kb n).take t) ++ [((n / 2 ^ (8 * (kb - 1 - t) + 8 - 8) % 2 ^ 8 : Nat) : Int)] := by
            have hl : t < (bytesB kb n).length := by rw [bytesB_len]; exact hlt
            have := HB.out t hlt
            rw [List.getElem?_eq_getElem hl] at this
            injection this with this
            rw [List.take_succ_eq_append_getElem hl, ints_snoc, this]
            rfl
          have HBT := Lib.hid hbt
          generalize n / 2 ^ (8 * (kb - 1 - t) + 8 - 8) % 2 ^ 8 = y at *
          have hcy : IntKind.u8.wrap (y : Int) = y := by show (y : Int) % 256 = y; omega
          replace hown := own_after hown hbs
          replace hbx := bl_trans hbx hbs
          have hsz2 := hbx.size
          clear hbt hz
          go_wp2_with (at_builtin; refine wpList_append_own _ rfl _ _ 34 rfl w1.heap.size 5 i0 (.int .u8 0) 1 1 Tryd.underlying34 hi0 hz0 hz1 hz2 rfl (by decide) _ _ _ rfl (hown.alloc _) ⟨wr.heap.size, 0, none⟩ 1 1 [.int .u8 (y : Int)] rfl rfl ?z1_1 ?z1_2 ?z1_3 ?z1_4 ?z1_5 ?_)
          (try case z1_1 => exact cell_list _ _ _)
          (try case z1_2 => (first | exact one_cell_k _ _ | (intro u hu; simp at hu; (try rcases hu with rfl | rfl) <;> (try subst hu) <;> rfl)))
          case z1_3 => (first | (simp only [maxLen]; omega) | omega)
          case z1_4 => omega
          case z1_5 => (first | omega | (simp; omega))
          intro v' wa hown' hgrow _
          have hbel1 := below_own hbx hown (by first | exact Nat.le_refl _ | omega) hgrow
          go_wp2_with fail
          go_roundw
          case rel => exact ⟨t + 1, by omega, by have := HK.out; first | go_num | (congr 1; omega), by rw [HBT.out, bytesV_snoc]; exact hown', hbel1⟩
          case measure => have := HK.out; simp [intOf]; omega
    · obtain rfl : t = kb := by omega
      have d1 : ¬ 0 ≤ 8 * (t : Int) - 1 - 8 * t := by omega
      rw [List.take_of_length_le (by rw [bytesB_len]; exact Nat.le_refl _)] at hown
      go_wp2_with fail
      go_ret
      exact ⟨_, rfl, own_lower hown hbel.size, bl_trans hbel hbx⟩
end Go.Proofs.YtgdgklibilddgaaDoor
