/- The walk of bits.Div64. -/
import Derived.Test.YtnhaejbakgjelaaDoorNumD
import Derived.Test.YtnhaejbakgjelaaDoorNumDiv
import Derived.Deep.DeepCutAuto
import Derived.Deep.CutBlock
namespace Go.Proofs.YtnhaejbakgjelaaDoor
open Go.RowKit

theorem div64_lo (l y : Int) (w : World) (l0 : 0 ≤ l) (l1 : l < 18446744073709551616) (y0 : 1 ≤ y) (y1 : y < 18446744073709551616) :
    Calls Tryd.prog 61 #[.int .u64 0, .int .u64 l, .int .u64 y] w fun e w' =>
      e = .returned (.tuple #[.int .u64 (l / y), .int .u64 (l % y)]) ∧ Below w.heap.size w w' := by
  have d0 : (y == 0) = false := by simp; omega
  have d1 : decide (y ≤ 0) = false := by simp; omega
  go_enter Tryd.func61, Tryd.ntmps61
  go_wp2
  go_region
  go_wp2
  go_ret2
  exact ⟨rfl, (by repeat (first | (with_reducible exact Below.refl _ _) | (with_reducible assumption) | (with_reducible refine bl_alloc ?_ _) | (with_reducible refine bl_drew ?_) | (with_reducible refine bl_drewN ?_ _) | (with_reducible refine bl_set ?_ (by first | (simp; done) | (simp; omega)) _) | (with_reducible refine bl_trans ?_ ‹_›)))⟩

def DvRel (u v1 v0 V d a b : Int) : Prop := a * v1 + b = u ∧ (u * 4294967296 + d) / V ≤ a
theorem mul_bd {a v : Int} (h0 : 0 ≤ a) (h1 : a < 4294967296) (h2 : 0 ≤ v) (h3 : v < 4294967296) : 0 ≤ a * v ∧ a * v ≤ 18446744065119617025 := by
  refine ⟨Int.mul_nonneg h0 h2, ?_⟩
  have a1 : a * v ≤ 4294967295 * v := Int.mul_le_mul_of_nonneg_right (by omega) h2
  omega

theorem norm_bd {y : Int} {s : Nat} (y0 : 1 ≤ y) (y1 : y < 18446744073709551616) (hs : (64 : Int) - (Lib.bitLen y.toNat : Int) = s) : 2 ^ 63 ≤ y.toNat * 2 ^ s ∧ y.toNat * 2 ^ s < 2 ^ 64 := by
  obtain ⟨a, b, c⟩ := Lib.bitLenAux_bounds 64 y.toNat (by rw [two64]; omega) (by omega)
  have e : Lib.bitLenAux 64 y.toNat = Lib.bitLen y.toNat := rfl
  rw [e] at a b c
  generalize Lib.bitLen y.toNat = k at *
  generalize y.toNat = n at *
  obtain rfl : s = 64 - k := by omega
  constructor
  · rw [show (63 : Nat) = (k - 1) + (64 - k) from by omega, Nat.pow_add]
    exact Nat.mul_le_mul_right _ b
  · rw [show (2 : Nat) ^ 64 = 2 ^ k * 2 ^ (64 - k) from by rw [← Nat.pow_add]; congr 1; omega]
    exact Nat.mul_lt_mul_of_pos_right c (Nat.two_pow_pos _)

set_option maxHeartbeats 1000000 in
theorem div64_hi (h l y : Int) (w : World) (h0 : 1 ≤ h) (h1 : h < y) (l0 : 0 ≤ l) (l1 : l < 18446744073709551616) (y0 : 1 ≤ y) (y1 : y < 18446744073709551616) :
    Calls Tryd.prog 61 #[.int .u64 h, .int .u64 l, .int .u64 y] w fun e w' =>
      e = .returned (.tuple #[.int .u64 ((h * 18446744073709551616 + l) / y), .int .u64 ((h * 18446744073709551616 + l) % y)]) ∧ Below w.heap.size w w' := by
  have d0 : (y == 0) = false := by simp; omega
  have d1 : decide (y ≤ h) = false := by simp; omega
  have d2 : (h == 0) = false := by simp; omega
  have hle : Lib.bitLen y.toNat ≤ 64 := by rw [bitLen_lenN y.toNat (by omega)]; exact lenN_le (by rw [two64]; omega)
  have hge : 1 ≤ Lib.bitLen y.toNat := by rw [bitLen_lenN y.toNat (by omega)]; unfold lenN; rw [if_neg (by omega)]; omega
  obtain ⟨s, hs⟩ : ∃ s : Nat, (64 : Int) - (Lib.bitLen y.toNat : Int) = s := ⟨64 - Lib.bitLen y.toNat, by omega⟩
  have s1 : s ≤ 63 := by omega
  obtain ⟨n1, n2⟩ := norm_bd y0 y1 hs
  obtain ⟨V, v1, v0, u, e1, e0, eV, ev1, ev0, eu, ed1, ed0, b1, b2, b3, b4, b5, b6, b7, b8, b9, b10, b11, b12, c1, c2, c3, c4⟩ := dv_all h0 h1 l0 l1 n1 n2 s1
  rw [← c1, ← c2]
  obtain ⟨r1, hr1⟩ : ∃ r1, (u * 4294967296 + e1) % V = r1 := ⟨_, rfl⟩
  have r0 : 0 ≤ r1 := by rw [← hr1]; exact Int.emod_nonneg _ (by omega)
  have rV : r1 < V := by rw [← hr1]; exact Int.emod_lt_of_pos _ (by omega)
  rw [hr1] at c4 ⊢
  have Hr1 := Lib.hid hr1
  clear hr1
  obtain ⟨f1, f2, f3, f4, f5, f6⟩ := dv_first b1 b2 b4 b5 b6 b7 b9 b10
  have Hs := Lib.hid hs
  have EV := Lib.hid eV
  have EV1 := Lib.hid ev1
  have EV0 := Lib.hid ev0
  have EU := Lib.hid eu
  have ED1 := Lib.hid ed1
  have ED0 := Lib.hid ed0
  have B1 := Lib.hid b1
  clear hs hle hge eV ev1 ev0 eu ed1 ed0 b1 c1 c2 n1 n2
  go_enter Tryd.func61, Tryd.ntmps61
  go_wp2_with fail
  refine (Tryd.bits_LeadingZeros64 y _ (by omega) (by omega)).mono ?_; rintro e w1 ⟨rfl, rfl⟩
  rw [Hs.out]
  go_upto_region 15 with (fail)
  have eV := EV.out
  have ev1 := EV1.out
  have ev0 := EV0.out
  have eu := EU.out
  have ed1 := ED1.out
  have ed0 := ED0.out
  simp only [eV, ev1, ev0, eu, ed1, ed0]
  clear eV ev1 ev0 eu ed1 ed0 EV EV1 EV0 EU ED1 ED0 d0 d1 d2 h0 h1 l0 l1 y0 y1 Hs
  go_upto_block 0 with (fail)
  have hu2 := b7
  have hd1 := b9
  have hd2 := b10
  go_cut [15] (fun q wc => q = .int .u64 ((u * 4294967296 + e1) / V) ∧ wc = w1)
  case first =>
    go_wp2_with fail
    go_loop [15, 16] (fun q r => ∃ a b : Int, q = .int .u64 a ∧ r = .int .u64 b ∧ DvRel (u) v1 v0 V (e1) a b ∧ 0 ≤ b ∧ b < 4294967296 ∧ 0 ≤ a ∧ a ≤ 4294967297) (fun q _ => (intOf q).toNat)
    case atStart => exact ⟨_, _, rfl, rfl, ⟨by omega, f1⟩, by omega, by omega, f3, f2⟩
    case round =>
      obtain ⟨a, b, rfl, rfl, hR, g1, g2, g3, g4⟩ := hrel
      have p0 : 0 ≤ (u * 4294967296 + e1) / V := Int.ediv_nonneg (by omega) (by omega)
      by_cases hB : 4294967296 ≤ a
      · have hn := dv_more B1.out (by omega) hR.1 hu2 hd2 (.inl hB)
        have dB : decide (4294967296 ≤ a) = true := by simpa using hB
        by_cases hb : 4294967296 ≤ b + v1
        · have db : decide (4294967296 ≤ b + v1) = true := by simpa using hb
          go_wp2_with fail
          go_meet
          case rel =>
            refine ⟨?_, rfl⟩
            have hq := dv_break (rh := b + v1) (q := a - 1) B1.out (by omega) b4 b5 hd1 (by have := hR.1; rw [Int.sub_mul, Int.one_mul]; omega) (by omega) (by omega) hb hn
            rw [← hq]
        · have db : decide (4294967296 ≤ b + v1) = false := by simpa using hb
          go_wp2_with fail
          go_round
          case rel => exact ⟨a - 1, b + v1, rfl, rfl, ⟨by have := hR.1; rw [Int.sub_mul, Int.one_mul]; omega, hn⟩, by omega, by omega, by omega, by omega⟩
          case measure => simp [intOf]; omega
      · have dB : decide (4294967296 ≤ a) = false := by simpa using hB
        obtain ⟨m1, m2⟩ := mul_bd g3 (by omega) b4 b5
        by_cases ht : 4294967296 * b + e1 < a * v0
        · have hn := dv_more B1.out (by omega) hR.1 hu2 hd2 (.inr ht)
          have dT : decide (4294967296 * b + e1 < a * v0) = true := by simpa using ht
          by_cases hb : 4294967296 ≤ b + v1
          · have db : decide (4294967296 ≤ b + v1) = true := by simpa using hb
            go_wp2_with fail
            go_meet
            case rel =>
              refine ⟨?_, rfl⟩
              have hq := dv_break (rh := b + v1) (q := a - 1) B1.out (by omega) b4 b5 hd1 (by have := hR.1; rw [Int.sub_mul, Int.one_mul]; omega) (by omega) (by omega) hb hn
              rw [← hq]
          · have db : decide (4294967296 ≤ b + v1) = false := by simpa using hb
            go_wp2_with fail
            go_round
            case rel => exact ⟨a - 1, b + v1, rfl, rfl, ⟨by have := hR.1; rw [Int.sub_mul, Int.one_mul]; omega, hn⟩, by omega, by omega, by omega, by omega⟩
            case measure => simp [intOf]; omega
        · have dT : decide (4294967296 * b + e1 < a * v0) = false := by simpa using ht
          go_wp2_with fail
          go_meet
          case rel =>
            refine ⟨?_, rfl⟩
            have hq := dv_done B1.out (by omega) hR.1 hR.2 (by omega)
            rw [← hq]
  case rest =>
    obtain ⟨rfl, rfl⟩ := hcut
    go_upto_region 22 with (fail)
    have hq1 : 0 ≤ (u * 4294967296 + e1) / V := Int.ediv_nonneg (by omega) (by omega)
    have el := dv_left (u := u) (d := e1) (V := V) (by omega) b8
    rw [Hr1.out] at el
    rw [el]
    clear el f1 f2 f3 f4 f5 f6 hu2 hd1 hd2
    obtain ⟨f1, f2, f3, f4, f5, f6⟩ := dv_first (u := r1) (d := e0) B1.out b2 b4 b5 r0 rV b11 b12
    go_upto_block 2 with (fail)
    have hu2 := rV
    have hd1 := b11
    have hd2 := b12
    go_cut [18] (fun q wd => q = .int .u64 ((r1 * 4294967296 + e0) / V) ∧ wd = wc)
    case first =>
      go_wp2_with fail
      go_loop [18, 16] (fun q r => ∃ a b : Int, q = .int .u64 a ∧ r = .int .u64 b ∧ DvRel (r1) v1 v0 V (e0) a b ∧ 0 ≤ b ∧ b < 4294967296 ∧ 0 ≤ a ∧ a ≤ 4294967297) (fun q _ => (intOf q).toNat)
      case atStart => exact ⟨_, _, rfl, rfl, ⟨by omega, f1⟩, by omega, by omega, f3, f2⟩
      case round =>
        obtain ⟨a, b, rfl, rfl, hR, g1, g2, g3, g4⟩ := hrel
        have p0 : 0 ≤ (r1 * 4294967296 + e0) / V := Int.ediv_nonneg (by omega) (by omega)
        by_cases hB : 4294967296 ≤ a
        · have hn := dv_more B1.out (by omega) hR.1 hu2 hd2 (.inl hB)
          have dB : decide (4294967296 ≤ a) = true := by simpa using hB
          by_cases hb : 4294967296 ≤ b + v1
          · have db : decide (4294967296 ≤ b + v1) = true := by simpa using hb
            go_wp2_with fail
            go_meet
            case rel =>
              refine ⟨?_, rfl⟩
              have hq := dv_break (rh := b + v1) (q := a - 1) B1.out (by omega) b4 b5 hd1 (by have := hR.1; rw [Int.sub_mul, Int.one_mul]; omega) (by omega) (by omega) hb hn
              rw [← hq]
          · have db : decide (4294967296 ≤ b + v1) = false := by simpa using hb
            go_wp2_with fail
            go_round
            case rel => exact ⟨a - 1, b + v1, rfl, rfl, ⟨by have := hR.1; rw [Int.sub_mul, Int.one_mul]; omega, hn⟩, by omega, by omega, by omega, by omega⟩
            case measure => simp [intOf]; omega
        · have dB : decide (4294967296 ≤ a) = false := by simpa using hB
          obtain ⟨m1, m2⟩ := mul_bd g3 (by omega) b4 b5
          by_cases ht : 4294967296 * b + e0 < a * v0
          · have hn := dv_more B1.out (by omega) hR.1 hu2 hd2 (.inr ht)
            have dT : decide (4294967296 * b + e0 < a * v0) = true := by simpa using ht
            by_cases hb : 4294967296 ≤ b + v1
            · have db : decide (4294967296 ≤ b + v1) = true := by simpa using hb
              go_wp2_with fail
              go_meet
              case rel =>
                refine ⟨?_, rfl⟩
                have hq := dv_break (rh := b + v1) (q := a - 1) B1.out (by omega) b4 b5 hd1 (by have := hR.1; rw [Int.sub_mul, Int.one_mul]; omega) (by omega) (by omega) hb hn
                rw [← hq]
            · have db : decide (4294967296 ≤ b + v1) = false := by simpa using hb
              go_wp2_with fail
              go_round
              case rel => exact ⟨a - 1, b + v1, rfl, rfl, ⟨by have := hR.1; rw [Int.sub_mul, Int.one_mul]; omega, hn⟩, by omega, by omega, by omega, by omega⟩
              case measure => simp [intOf]; omega
          · have dT : decide (4294967296 * b + e0 < a * v0) = false := by simpa using ht
            go_wp2_with fail
            go_meet
            case rel =>
              refine ⟨?_, rfl⟩
              have hq := dv_done B1.out (by omega) hR.1 hR.2 (by omega)
              rw [← hq]
    case rest =>
      obtain ⟨rfl, rfl⟩ := hcut
      have hq0 : 0 ≤ (r1 * 4294967296 + e0) / V := Int.ediv_nonneg (by omega) (by omega)
      go_wp2_with fail
      have el := dv_left (u := r1) (d := e0) (V := V) (by omega) b8
      rw [el]
      go_ret2
      exact ⟨rfl, (by repeat (first | (with_reducible exact Below.refl _ _) | (with_reducible assumption) | (with_reducible refine bl_alloc ?_ _) | (with_reducible refine bl_drew ?_) | (with_reducible refine bl_drewN ?_ _) | (with_reducible refine bl_set ?_ (by first | (simp; done) | (simp; omega)) _) | (with_reducible refine bl_trans ?_ ‹_›)))⟩

theorem div64_c (h l y : Int) (w : World) (h0 : 0 ≤ h) (h1 : h < y) (l0 : 0 ≤ l) (l1 : l < 18446744073709551616) (y1 : y < 18446744073709551616) :
    Calls Tryd.prog 61 #[.int .u64 h, .int .u64 l, .int .u64 y] w fun e w' =>
      e = .returned (.tuple #[.int .u64 ((h * 18446744073709551616 + l) / y), .int .u64 ((h * 18446744073709551616 + l) % y)]) ∧ Below w.heap.size w w' := by
  rcases Int.lt_or_le 0 h with hh | hh
  · exact div64_hi h l y w hh h1 l0 l1 (by omega) y1
  · obtain rfl : h = 0 := by omega
    rw [show (0 : Int) * 18446744073709551616 + l = l from by omega]
    exact div64_lo l y w l0 l1 (by omega) y1

theorem over_words {h l k : Int} (h0 : 0 ≤ h) (h1 : h < 18446744073709551616) (l0 : 0 ≤ l) (l1 : l < 18446744073709551616) (k0 : 1 ≤ k) (k1 : k < 18446744073709551616) :
    Value.agg #[.int .u64 (h / k), .int .u64 ((h % k * 18446744073709551616 + l) / k)] = numV (overQ (num h l) k.toNat) ∧ (h % k * 18446744073709551616 + l) % k = (overR (num h l) k.toNat : Nat) ∧
      0 ≤ (h % k * 18446744073709551616 + l) / k ∧ (h % k * 18446744073709551616 + l) / k < 18446744073709551616 := by
  obtain ⟨H, rfl⟩ := Int.eq_ofNat_of_zero_le h0
  obtain ⟨L, rfl⟩ := Int.eq_ofNat_of_zero_le l0
  obtain ⟨K, rfl⟩ := Int.eq_ofNat_of_zero_le (show 0 ≤ k by omega)
  have e1 : ((H : Int) % K * 18446744073709551616 + L) = ((H % K * 18446744073709551616 + L : Nat) : Int) := by rw [← Int.natCast_emod]; omega
  have e2 : H * 18446744073709551616 + L = K * (H / K * 18446744073709551616) + (H % K * 18446744073709551616 + L) := by
    have := Nat.div_add_mod H K
    rw [← Nat.mul_assoc]
    generalize K * (H / K) = x at *
    generalize H % K = z at *
    omega
  have hK : 0 < K := by omega
  have hlt : (H % K * 18446744073709551616 + L) / K < 18446744073709551616 := by
    rw [Nat.div_lt_iff_lt_mul hK, Nat.mul_comm]
    have := Nat.mod_lt H hK
    generalize H % K = z at *
    omega
  rw [e1]
  unfold num overQ overR
  simp only [Int.toNat_natCast]
  rw [if_neg (by omega), if_neg (by omega), ← Int.natCast_ediv, ← Int.natCast_ediv, ← Int.natCast_emod]
  refine ⟨numV_nat (Nat.lt_of_le_of_lt (Nat.div_le_self _ _) (by omega)) hlt ?_, ?_, Int.natCast_nonneg _, Int.ofNat_lt.2 hlt⟩
  · rw [e2, Nat.mul_add_div hK]
  · rw [e2, Nat.mul_add_mod]

theorem over_c (ah al k : Int) (w : World) (h0_ah : 0 ≤ ah) (h1_ah : ah < 18446744073709551616) (h0_al : 0 ≤ al) (h1_al : al < 18446744073709551616) (k0 : 0 ≤ k) (k1 : k < 18446744073709551616) :
    Calls Tryd.prog 49 #[.agg #[.int .u64 ah, .int .u64 al], .int .u64 k] w fun e w' =>
      e = .returned (.tuple #[numV (overQ (num ah al) k.toNat), .int .u64 (overR (num ah al) k.toNat : Nat)]) ∧ Below w.heap.size w w' := by
  by_cases hk : k = 0
  · subst hk
    have q : numV (overQ (num ah al) (0 : Int).toNat) = .agg #[.int .u64 0, .int .u64 0] := by
      have q0 : overQ (num ah al) (0 : Int).toNat = 0 := by unfold overQ; simp
      rw [q0]; rfl
    rw [q]
    have q2 : ((overR (num ah al) (0 : Int).toNat : Nat) : Int) = 0 := by unfold overR; simp
    rw [q2]
    go_enter Tryd.func49, Tryd.ntmps49
    go_wp2
    refine bodyPost_ret (v := .tuple #[.agg #[.int .u64 0, .int .u64 0], .int .u64 0]) (by simp [results, Tryd.results49, go_sem]) rfl ⟨rfl, (by repeat (first | (with_reducible exact Below.refl _ _) | (with_reducible assumption) | (with_reducible refine bl_alloc ?_ _) | (with_reducible refine bl_drew ?_) | (with_reducible refine bl_drewN ?_ _) | (with_reducible refine bl_set ?_ (by first | (simp; done) | (simp; omega)) _) | (with_reducible refine bl_trans ?_ ‹_›)))⟩
  · obtain ⟨q1, q2, q3, q4⟩ := over_words h0_ah h1_ah h0_al h1_al (show 1 ≤ k by omega) k1
    rw [← q1, ← q2]
    have d0 : (k == 0) = false := by simpa using hk
    have k2 : 1 ≤ k := by omega
    have m1 : 0 ≤ ah % k := Int.emod_nonneg _ (by omega)
    have m2 : ah % k < k := Int.emod_lt_of_pos _ (by omega)
    clear q1 q2 hk
    go_enter Tryd.func49, Tryd.ntmps49
    go_wp2
    go_region
    go_wp2_with fail
    refine (div64_c (ah % k) al k _ m1 m2 (by assumption) (by assumption) k1).mono ?_
    rintro e w1 ⟨rfl, hb1⟩; obtain ⟨hc1, hf1⟩ := bcell hb1; have hz1 := hb1.size; (try simp only [size_alloc', size_setCell', size_drew'] at hz1)
    go_wp2_with fail
    refine bodyPost_ret (v := .tuple #[.agg #[.int .u64 (ah / k), .int .u64 ((ah % k * 18446744073709551616 + al) / k)], .int .u64 ((ah % k * 18446744073709551616 + al) % k)]) (by simp [results, Tryd.results49, go_sem, hc1, hz1]) rfl ⟨rfl, (by repeat (first | (with_reducible exact Below.refl _ _) | (with_reducible assumption) | (with_reducible refine bl_alloc ?_ _) | (with_reducible refine bl_drew ?_) | (with_reducible refine bl_drewN ?_ _) | (with_reducible refine bl_set ?_ (by first | (simp; done) | (simp; omega)) _) | (with_reducible refine bl_trans ?_ ‹_›)))⟩
end Go.Proofs.YtnhaejbakgjelaaDoor
