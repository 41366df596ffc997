/- Addresses: the bytes. -/
import Derived.Test.YtgdgklibilddgaaDoorAdF
import Derived.Deep.AppendSrc
namespace Go.Proofs.YtgdgklibilddgaaDoor
open Go.RowKit

/-- numbers as whole numbers -/
def ints (l : List Nat) : List Int := l.map Int.ofNat
theorem ints_len (l : List Nat) : (ints l).length = l.length := by simp [ints]
theorem ints_snoc (l : List Nat) (n : Nat) : ints (l ++ [n]) = ints l ++ [(n : Int)] := by simp [ints]
/-- numbers of bytes as a text -/
def txt (l : List Nat) : ByteArray := strOfNums (ints l)
theorem bts_txt (l : List Nat) : bts (txt l) = l.map UInt8.ofNat := by
  unfold bts txt
  rw [strOfNums_data]
  unfold ints
  rw [List.map_map]
  apply List.map_congr_left
  intro n _
  simp
theorem bytesB_at {k n t : Nat} (ht : t < k) : (bytesB k n)[t]? = some (n / 256 ^ (k - 1 - t) % 256) := by unfold bytesB; simp [ht]
theorem bytesB_len (k n : Nat) : (bytesB k n).length = k := by unfold bytesB; simp
theorem byte_lo (n k : Nat) : IntKind.u8.wrap (lo (n / 2 ^ (8 * k))) = ((n / 256 ^ k % 256 : Nat) : Int) := by
  rw [Nat.pow_mul]
  show lo _ % 256 = _
  unfold lo
  rw [show (2 : Nat) ^ 8 = 256 by decide]
  generalize n / 256 ^ k = x
  omega
def byteN (v6 : Bool) : Nat := if v6 then 16 else 4
theorem byteN_w (v6 : Bool) : widthN v6 = 8 * byteN v6 := by cases v6 <;> rfl
theorem conv_own {w : World} {base : Nat} {v : Value} {l : List Int} (h : w.ownsRow base 5 1 v l.length (bytesV l)) :
    (convert 34 9 v).run Tryd.prog w = Result.ok (Value.string (strOfNums l)) w := by
  rcases Nat.eq_zero_or_pos l.length with h0 | h0
  · have : l = [] := List.eq_nil_of_length_eq_zero h0
    subst this
    rcases h.2 with ⟨rfl, _⟩ | ⟨g, cap, cur, rfl, _⟩
    · exact run_convert_bytes_nil w _ _ Tryd.underlying34 Tryd.underlying5 0 0 _ Tryd.underlying9
    · exact run_convert_bytes_arg w _ _ Tryd.underlying34 Tryd.underlying5 g 0 0 cap [] rfl (fun i hi => absurd hi (by omega)) _ Tryd.underlying9
  · obtain ⟨g, cap, rfl, _, _, _, hc, _⟩ := own_form h h0
    exact run_convert_bytes_arg w _ _ Tryd.underlying34 Tryd.underlying5 g 0 l.length cap l rfl (fun i hi => by rw [Nat.zero_add]; exact hc i _ (get_bytes hi)) _ Tryd.underlying9
set_option maxRecDepth 100000 in
set_option maxHeartbeats 3200000 in
theorem bytes_c (v6 : Bool) (n : Nat) (w : World) (hn : n < 340282366920938463463374607431768211456) (hr : rightB v6 n = true) :
    Calls Tryd.prog 15 #[AddrV v6 n] w fun e w' => e = .returned (.string (txt (bytesB (byteN v6) n))) ∧ Below w.heap.size w w' := by
  have HR := Lib.hid (fun w => right_c v6 n w hn)
  rw [hr] at HR
  have HW := Lib.hid (fun w => width_c v6 n w)
  rw [byteN_w] at HW
  obtain ⟨i0, hi0, hz0, hz1, hz2⟩ := info_parts info_u8
  have hb4 : 4 ≤ byteN v6 ∧ byteN v6 ≤ 16 := by cases v6 <;> decide
  have HB := Lib.hid (fun t (ht : t < byteN v6) => bytesB_at (n := n) ht)
  rw [AddrV_eq] at *
  unfold AddrC at *
  generalize byteN v6 = kb at *
  go_enter Tryd.func15, Tryd.ntmps15
  go_wp2_with fail
  have hA : Blk (w.alloc (.cells #[.bool v6, .int .u64 (hi n), .int .u64 (lo n)] 26)) w.heap.size 26 (AddrC v6 n) := Blk.new _ _ _
  have hbel : Below w.heap.size w (w.alloc (.cells #[.bool v6, .int .u64 (hi n), .int .u64 (lo n)] 26)) := (by repeat (first | (with_reducible exact Below.refl _ _) | (with_reducible assumption) | (with_reducible refine bl_alloc ?_ _) | (with_reducible refine bl_drew ?_) | (with_reducible refine bl_drewN ?_ _) | (with_reducible refine bl_set ?_ (by first | (simp; done) | (simp; omega)) _) | (with_reducible refine bl_trans ?_ ‹_›)))
  generalize w.alloc (.cells #[.bool v6, .int .u64 (hi n), .int .u64 (lo n)] 26) = w0 at *
  refine (HR.out _).mono ?_
  rintro e w1 ⟨rfl, hb1⟩
  have hA1 := hA.after hb1
  obtain ⟨c0, c1, c2, _⟩ := blk_adr hA1
  have hbel1 := bl_trans hbel hb1
  clear hA hbel hb1
  go_wp2_with fail
  refine (HW.out _).mono ?_
  rintro e w2 ⟨rfl, hb2⟩
  have hA2 := hA1.after hb2
  have hbel2 := bl_trans hbel1 hb2
  clear hA1 hbel1 hb2 c0 c1 c2
  go_wp2_with fail
  have HSH := Lib.hid (fun k w (hk : (0:Int) ≤ k) => shr_c (hi n) (lo n) k w (hi_nn _) (hi_lt _) (lo_nn _) (lo_lt _) (by omega))
  rw [num_hi_lo hn] at HSH
  go_loopw [3, 4] (fun b i wr => ∃ t : Nat, t ≤ kb ∧ i = .int .i64 (8 * (kb : Int) - 8 - 8 * t) ∧ wr.ownsRow w2.heap.size 5 1 b t (bytesV (ints ((bytesB kb n).take t))) ∧ Below w2.heap.size w2 wr) (fun _ i _ => (intOf i + 8).toNat)
  case atStart => exact ⟨0, by omega, by go_num, World.ownsRow_nil _ _ _ _, Below.refl _ _⟩
  case round =>
    obtain ⟨t, ht, rfl, hown, hbel⟩ := hrel
    have hA3 := hA2.after hbel
    obtain ⟨c0, c1, c2, _⟩ := blk_adr hA3
    have hz := hbel.size
    by_cases hlt : t < kb
    · have d1 : 0 ≤ 8 * (kb : Int) - 8 - 8 * t := by omega
      have hbt : ints ((bytesB kb n).take (t + 1)) = ints ((bytesB kb n).take t) ++ [((n / 256 ^ (kb - 1 - t) % 256 : Nat) : Int)] := by
        have hl : t < (bytesB kb n).length := by rw [bytesB_len]; exact hlt
        have := HB.out t hlt
        rw [List.getElem?_eq_getElem hl] at this
        injection this with this
        rw [List.take_succ_eq_append_getElem hl, ints_snoc, this]
      have HBT := Lib.hid hbt
      have HSS := Lib.hid (fun w => HSH.out (8 * (kb : Int) - 8 - 8 * t) w d1)
      have hsh : shrN n (8 * (kb : Int) - 8 - 8 * t) = n / 2 ^ (8 * (kb - 1 - t)) := by
        rw [show 8 * (kb : Int) - 8 - 8 * t = ((8 * (kb - 1 - t) : Nat) : Int) by omega]
        exact shrN_nat (by omega) hn
      rw [hsh] at HSS
      have hby := byte_lo n (kb - 1 - t)
      unfold numV at HSS
      generalize n / 2 ^ (8 * (kb - 1 - t)) = x at *
      generalize n / 256 ^ (kb - 1 - t) % 256 = y at *
      have hfd : ∀ w : World, (Instr.field 24 (.agg #[.int .u64 (hi x), .int .u64 (lo x)]) 1).run Tryd.prog w = .ok (.int .u64 (lo x)) w := fun _ => by kernel_rfl
      clear hbt hsh
      go_wp2_with fail
      refine (HSS.out _).mono ?_
      rintro e w3 ⟨rfl, hb3⟩
      have hown3 := own_after hown hb3
      have hbel3 := bl_trans hbel hb3
      have hz3 := hbel3.size
      clear hown hbel c0 c1 c2 hA3 hz hb3
      go_wp2_with (at_builtin; refine wpList_append_own _ rfl _ _ 34 rfl w2.heap.size 5 i0 (.int .u8 0) 1 1 Tryd.underlying34 hi0 hz0 hz1 hz2 rfl (by decide) _ _ _ rfl (hown3.alloc _) ⟨w3.heap.size, 0, none⟩ 1 1 [.int .u8 (y : Int)] rfl rfl ?z1_1 ?z1_2 ?z1_3 ?z1_4 ?z1_5 ?_)
      (try case z1_1 => exact cell_list _ _ _)
      (try case z1_2 => (first | exact one_cell_k _ _ | (intro u hu; simp at hu; (try rcases hu with rfl | rfl) <;> (try subst hu) <;> rfl)))
      case z1_3 => (first | (simp only [maxLen]; omega) | omega)
      case z1_4 => omega
      case z1_5 => (first | omega | (simp; omega))
      intro v' wa hown' hgrow _
      have hbel1 := below_own hbel3 hown3 (Nat.le_refl _) hgrow
      go_wp2_with fail
      go_roundw
      case rel => exact ⟨t + 1, by omega, by go_num, by rw [HBT.out, bytesV_snoc]; exact hown', hbel1⟩
      case measure => simp [intOf]; omega
    · obtain rfl : t = kb := by omega
      have d1 : ¬ 0 ≤ 8 * (t : Int) - 8 - 8 * t := by omega
      rw [List.take_of_length_le (by rw [bytesB_len]; exact Nat.le_refl _)] at hown
      have hconv := conv_own (l := ints (bytesB t n)) (by rw [ints_len, bytesB_len]; exact hown)
      go_wp2_with fail
      go_ret
      exact ⟨rfl, bl_trans hbel2 hbel⟩
end Go.Proofs.YtgdgklibilddgaaDoor
