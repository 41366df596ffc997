/- The walk of NumBack. -/
import Derived.Test.YtnhaejbakgjelaaAwk
import Derived.Laws.Bits128
import Derived.IntWalk
namespace Go.Proofs.Ytnhaejbakgjelaa
open Go.RowKit

theorem lt_lenN (a : Nat) : a < 2 ^ lenN a := by
  unfold lenN
  split
  · rename_i h; subst h; simp
  · exact Nat.lt_log2_self
theorem shl_exact {a k : Nat} (h : lenN a + k ≤ 128) (hk : k < 128) : shlN a k = a * 2 ^ k := by
  unfold shlN
  rw [if_neg (by omega), if_neg (by omega), Int.toNat_natCast]
  refine Nat.mod_eq_of_lt ?_
  calc a * 2 ^ k < 2 ^ lenN a * 2 ^ k := Nat.mul_lt_mul_of_pos_right (lt_lenN a) (Nat.two_pow_pos _)
    _ = 2 ^ (lenN a + k) := (Nat.pow_add _ _ _).symm
    _ ≤ 2 ^ 128 := Nat.pow_le_pow_right (by omega) h
theorem shl_shr {a k : Nat} (h : lenN a + k ≤ 128) (hk : k < 128) (hlt : shlN a k < 340282366920938463463374607431768211456) : shrN (shlN a k) k = a := by
  rw [shrN_nat hk hlt, shl_exact h hk, Nat.mul_div_cancel _ (Nat.two_pow_pos _)]
theorem len_shl {a k : Nat} (ha : a ≠ 0) (h : lenN a + k ≤ 128) (hk : k < 128) : lenN (shlN a k) = lenN a + k := by
  rw [shl_exact h hk]
  unfold lenN
  have hp : 0 < 2 ^ k := Nat.two_pow_pos _
  rw [if_neg (by intro e; rcases Nat.mul_eq_zero.1 e with e | e <;> omega), if_neg ha]
  have e : Nat.log2 (a * 2 ^ k) = Nat.log2 a + k := by
    refine (Nat.log2_eq_iff (by intro e; rcases Nat.mul_eq_zero.1 e with e | e <;> omega)).2 ⟨?_, ?_⟩
    · rw [Nat.pow_add]; exact Nat.mul_le_mul_right _ (Nat.log2_self_le ha)
    · rw [show Nat.log2 a + k + 1 = Nat.log2 a + 1 + k from by omega, Nat.pow_add]
      exact Nat.mul_lt_mul_of_pos_right Nat.lt_log2_self hp
  omega
theorem back_sum {a b : Nat} (ha : a < 340282366920938463463374607431768211456) (hb : b < 340282366920938463463374607431768211456) :
    subN (addN a b) b = a ∧ subF (addN a b) b = addF a b := by
  constructor
  · unfold subN addN; omega
  · unfold subF addF addN; rw [Bool.eq_iff_iff]; simp only [decide_eq_true_eq]; omega
theorem back_not {a : Nat} (ha : a < 340282366920938463463374607431768211456) : subN (onesN 128) a = notN a ∧ subF (onesN 128) a = true := by
  have e : onesN 128 = 340282366920938463463374607431768211455 := by decide +kernel
  rw [e]
  constructor
  · unfold subN notN; omega
  · unfold subF; simp; omega
theorem addN_lt (a b : Nat) : addN a b < 340282366920938463463374607431768211456 := Nat.mod_lt _ (by omega)
theorem onesN_lt : onesN 128 < 340282366920938463463374607431768211456 := by decide +kernel

theorem blk_six {w : World} {g g' g'' : Nat} {t : TypeId} {a b a' b' a'' b'' : Value} (h : Blk w g t #[a, b]) (h' : Blk w g' t #[a', b']) (h'' : Blk w g'' t #[a'', b'']) :
    w.cell? ⟨g, 0, none⟩ = some a ∧ w.cell? ⟨g, 1, none⟩ = some b ∧ w.cell? ⟨g', 0, none⟩ = some a' ∧ w.cell? ⟨g', 1, none⟩ = some b' ∧ w.cell? ⟨g'', 0, none⟩ = some a'' ∧ w.cell? ⟨g'', 1, none⟩ = some b'' ∧ Blk w g t #[a, b] ∧ Blk w g' t #[a', b'] ∧ Blk w g'' t #[a'', b''] :=
  ⟨(h.cell 0).trans rfl, (h.cell 1).trans rfl, (h'.cell 0).trans rfl, (h'.cell 1).trans rfl, (h''.cell 0).trans rfl, (h''.cell 1).trans rfl, h, h', h''⟩

set_option maxHeartbeats 3200000 in
theorem numBack_walk (a b : Nat) (k : Int) (w : World) (ha : a < 340282366920938463463374607431768211456) (hb : b < 340282366920938463463374607431768211456) :
    Calls Try.prog 3 #[numV a, numV b, .int .i64 k] w fun e w' => e = .returned (.bool true) ∧ Below w.heap.size w w' := by
  obtain ⟨p1, p2⟩ := back_sum ha hb
  obtain ⟨p3, p4⟩ := back_not ha
  have P1 := Lib.hid p1
  have P2 := Lib.hid p2
  have P3 := Lib.hid p3
  have P4 := Lib.hid p4
  clear p1 p2 p3 p4
  go_enter Try.func3, Try.ntmps3
  go_wp2_with fail
  refine (awake_c _).mono ?_
  rintro e w1 ⟨rfl, hb1⟩; obtain ⟨hc1, hf1⟩ := bcell hb1; have hz1 := hb1.size; (try simp only [size_alloc', size_setCell', size_drew'] at hz1); have hs1_0 : w.heap.size < w1.heap.size := (by omega); have hs1_1 : w.heap.size + 1 < w1.heap.size := (by omega)
  go_wp2_with fail
  refine (add_c _ _ _ _ _ (hi_nn _) (hi_lt _) (lo_nn _) (lo_lt _) (hi_nn _) (hi_lt _) (lo_nn _) (lo_lt _)).mono ?_
  rw [num_hi_lo ha, num_hi_lo hb]
  rintro e w2 ⟨rfl, hb2⟩; obtain ⟨hc2, hf2⟩ := bcell hb2; have hz2 := hb2.size; (try simp only [size_alloc', size_setCell', size_drew'] at hz2); have hs2_0 : w.heap.size < w2.heap.size := (by omega); have hs2_1 : w.heap.size + 1 < w2.heap.size := (by omega)
  go_wp2_with fail
  refine (sub_c _ _ _ _ _ (hi_nn _) (hi_lt _) (lo_nn _) (lo_lt _) (hi_nn _) (hi_lt _) (lo_nn _) (lo_lt _)).mono ?_
  rw [num_hi_lo hb, num_hi_lo (addN_lt a b), P1.out, P2.out]
  rintro e w3 ⟨rfl, hb3⟩; obtain ⟨hc3, hf3⟩ := bcell hb3; have hz3 := hb3.size; (try simp only [size_alloc', size_setCell', size_drew'] at hz3); have hs3_0 : w.heap.size < w3.heap.size := (by omega); have hs3_1 : w.heap.size + 1 < w3.heap.size := (by omega); have hs3_2 : w2.heap.size < w3.heap.size := (by omega)
  go_wp2_with fail
  generalize hW : (w3.alloc (.cells #[.int .u64 (hi a), .int .u64 (lo a)] 24)) = W
  have bA : Blk W w.heap.size 24 #[.int .u64 (hi a), .int .u64 (lo a)] := by rw [← hW]; exact (by repeat (first | (with_reducible assumption) | (with_reducible refine blk_fill (u := .int .u64 0) (v := .int .u64 0) ?_) | (with_reducible refine Blk.drew ?_) | (with_reducible refine Blk.new' _ _ _ _ (by first | (with_reducible rfl) | (simp; done))) | (with_reducible refine Blk.alloc ?_ _) | (with_reducible refine Blk.after ?_ ‹_›) | (with_reducible refine Blk.far ?_ (by first | (simp; done) | (simp; omega)) _)))
  have bY : Blk W w3.heap.size 24 #[.int .u64 (hi a), .int .u64 (lo a)] := by rw [← hW]; exact (by repeat (first | (with_reducible assumption) | (with_reducible refine blk_fill (u := .int .u64 0) (v := .int .u64 0) ?_) | (with_reducible refine Blk.drew ?_) | (with_reducible refine Blk.new' _ _ _ _ (by first | (with_reducible rfl) | (simp; done))) | (with_reducible refine Blk.alloc ?_ _) | (with_reducible refine Blk.after ?_ ‹_›) | (with_reducible refine Blk.far ?_ (by first | (simp; done) | (simp; omega)) _)))
  have hbel : Below w.heap.size w W := by rw [← hW]; exact (by repeat (first | (with_reducible exact Below.refl _ _) | (with_reducible assumption) | (with_reducible refine bl_alloc ?_ _) | (with_reducible refine bl_drew ?_) | (with_reducible refine bl_drewN ?_ _) | (with_reducible refine bl_set ?_ (by first | (simp; done) | (simp; omega)) _) | (with_reducible refine bl_trans ?_ ‹_›)))
  clear hW hb1 hc1 hf1 hz1 hs1_0 hs1_1 hb2 hc2 hf2 hz2 hs2_0 hs2_1 hb3 hc3 hf3 hz3 hs3_0 hs3_1 hs3_2
  generalize w3.heap.size = gy at *
  have hgW := bA.lt
  have hyW := bY.lt
  go_cut [11, 12] (fun s11 s12 wc => ∃ g : Nat, s11 = .pointer (some ⟨g, 0, none⟩) ∧ s12 = .bool true ∧ Blk wc g 24 #[.int .u64 (hi (notN a)), .int .u64 (lo (notN a))] ∧ Blk wc w.heap.size 24 #[.int .u64 (hi a), .int .u64 (lo a)] ∧ Blk wc gy 24 #[.int .u64 (hi a), .int .u64 (lo a)] ∧ Below w.heap.size w wc)
  case first =>
    go_region_held3 (fun w' => w'.cell? ⟨w.heap.size, 0, none⟩ = some (.int .u64 (hi a)) ∧ w'.cell? ⟨w.heap.size, 1, none⟩ = some (.int .u64 (lo a)) ∧ Blk w' w.heap.size 24 #[.int .u64 (hi a), .int .u64 (lo a)]) (exact blk_two (by repeat (first | (with_reducible assumption) | (with_reducible refine blk_fill (u := .int .u64 0) (v := .int .u64 0) ?_) | (with_reducible refine Blk.drew ?_) | (with_reducible refine Blk.new' _ _ _ _ (by first | (with_reducible rfl) | (simp; done))) | (with_reducible refine Blk.alloc ?_ _) | (with_reducible refine Blk.after ?_ ‹_›) | (with_reducible refine Blk.far ?_ (by first | (simp; done) | (simp; omega)) _))))
      (first
      | (go_at_call 9; refine (ones_c 128 _).mono ?_; rintro e w1 ⟨rfl, hb1⟩; obtain ⟨hc1, hf1⟩ := bcell hb1; have hz1 := hb1.size; (try simp only [size_alloc', size_setCell', size_drew'] at hz1); (try have hs1 : W.heap.size < w1.heap.size := by omega))
      | (go_at_call 8; refine (sub_c _ _ _ _ _ (hi_nn _) (hi_lt _) (lo_nn _) (lo_lt _) (hi_nn _) (hi_lt _) (lo_nn _) (lo_lt _)).mono ?_; rw [num_hi_lo ha, num_hi_lo onesN_lt, P3.out, P4.out]; rintro e w1 ⟨rfl, hb1⟩; obtain ⟨hc1, hf1⟩ := bcell hb1; have hz1 := hb1.size; (try simp only [size_alloc', size_setCell', size_drew'] at hz1); (try have hs1 : W.heap.size < w1.heap.size := by omega)))
    all_goals
      go_wp2_with fail
      go_meet
      case rel => exact ⟨_, rfl, rfl, (by repeat (first | (with_reducible assumption) | (with_reducible refine blk_fill (u := .int .u64 0) (v := .int .u64 0) ?_) | (with_reducible refine Blk.drew ?_) | (with_reducible refine Blk.new' _ _ _ _ (by first | (with_reducible rfl) | (simp; done))) | (with_reducible refine Blk.alloc ?_ _) | (with_reducible refine Blk.after ?_ ‹_›) | (with_reducible refine Blk.far ?_ (by first | (simp; done) | (simp; omega)) _))), (by repeat (first | (with_reducible assumption) | (with_reducible refine blk_fill (u := .int .u64 0) (v := .int .u64 0) ?_) | (with_reducible refine Blk.drew ?_) | (with_reducible refine Blk.new' _ _ _ _ (by first | (with_reducible rfl) | (simp; done))) | (with_reducible refine Blk.alloc ?_ _) | (with_reducible refine Blk.after ?_ ‹_›) | (with_reducible refine Blk.far ?_ (by first | (simp; done) | (simp; omega)) _))), (by repeat (first | (with_reducible assumption) | (with_reducible refine blk_fill (u := .int .u64 0) (v := .int .u64 0) ?_) | (with_reducible refine Blk.drew ?_) | (with_reducible refine Blk.new' _ _ _ _ (by first | (with_reducible rfl) | (simp; done))) | (with_reducible refine Blk.alloc ?_ _) | (with_reducible refine Blk.after ?_ ‹_›) | (with_reducible refine Blk.far ?_ (by first | (simp; done) | (simp; omega)) _))), (by repeat (first | (with_reducible exact Below.refl _ _) | (with_reducible assumption) | (with_reducible refine bl_alloc ?_ _) | (with_reducible refine bl_drew ?_) | (with_reducible refine bl_drewN ?_ _) | (with_reducible refine bl_set ?_ (by first | (simp; done) | (simp; omega)) _) | (with_reducible refine bl_trans ?_ ‹_›)))⟩
  case rest =>
    clear bA bY hbel
    obtain ⟨gz, rfl, rfl, bZ, bA, bY, hbel⟩ := hcut
    go_wp2_with fail
    have hA1 := bA.lt
    have hY1 := bY.lt
    have hZ1 := bZ.lt
    obtain ⟨ka0, ka1, _⟩ := blk_two bA
    obtain ⟨ky0, ky1, _⟩ := blk_two bY
    obtain ⟨kz0, kz1, _⟩ := blk_two bZ
    go_cut [50] (fun s wd => s = .bool false ∧ Blk wd w.heap.size 24 #[.int .u64 (hi a), .int .u64 (lo a)] ∧ Below w.heap.size w wd)
    case first =>
      go_region_held3 (fun w' => w'.cell? ⟨w.heap.size, 0, none⟩ = some (.int .u64 (hi a)) ∧ w'.cell? ⟨w.heap.size, 1, none⟩ = some (.int .u64 (lo a)) ∧ w'.cell? ⟨gy, 0, none⟩ = some (.int .u64 (hi a)) ∧ w'.cell? ⟨gy, 1, none⟩ = some (.int .u64 (lo a)) ∧
          w'.cell? ⟨gz, 0, none⟩ = some (.int .u64 (hi (notN a))) ∧ w'.cell? ⟨gz, 1, none⟩ = some (.int .u64 (lo (notN a))) ∧ Blk w' w.heap.size 24 #[.int .u64 (hi a), .int .u64 (lo a)] ∧ Blk w' gy 24 #[.int .u64 (hi a), .int .u64 (lo a)] ∧ Blk w' gz 24 #[.int .u64 (hi (notN a)), .int .u64 (lo (notN a))])
        (exact blk_six (by repeat (first | (with_reducible assumption) | (with_reducible refine blk_fill (u := .int .u64 0) (v := .int .u64 0) ?_) | (with_reducible refine Blk.drew ?_) | (with_reducible refine Blk.new' _ _ _ _ (by first | (with_reducible rfl) | (simp; done))) | (with_reducible refine Blk.alloc ?_ _) | (with_reducible refine Blk.after ?_ ‹_›) | (with_reducible refine Blk.far ?_ (by first | (simp; done) | (simp; omega)) _))) (by repeat (first | (with_reducible assumption) | (with_reducible refine blk_fill (u := .int .u64 0) (v := .int .u64 0) ?_) | (with_reducible refine Blk.drew ?_) | (with_reducible refine Blk.new' _ _ _ _ (by first | (with_reducible rfl) | (simp; done))) | (with_reducible refine Blk.alloc ?_ _) | (with_reducible refine Blk.after ?_ ‹_›) | (with_reducible refine Blk.far ?_ (by first | (simp; done) | (simp; omega)) _))) (by repeat (first | (with_reducible assumption) | (with_reducible refine blk_fill (u := .int .u64 0) (v := .int .u64 0) ?_) | (with_reducible refine Blk.drew ?_) | (with_reducible refine Blk.new' _ _ _ _ (by first | (with_reducible rfl) | (simp; done))) | (with_reducible refine Blk.alloc ?_ _) | (with_reducible refine Blk.after ?_ ‹_›) | (with_reducible refine Blk.far ?_ (by first | (simp; done) | (simp; omega)) _))))
        (first
        | (go_at_call 10; refine (not_c _ _ _ (hi_nn _) (hi_lt _) (lo_nn _) (lo_lt _)).mono ?_; rw [num_hi_lo ha]; rintro e w1 ⟨rfl, hb1⟩))
      all_goals
        go_wp2_with fail
        go_meet
        case rel => exact ⟨rfl, (by repeat (first | (with_reducible assumption) | (with_reducible refine blk_fill (u := .int .u64 0) (v := .int .u64 0) ?_) | (with_reducible refine Blk.drew ?_) | (with_reducible refine Blk.new' _ _ _ _ (by first | (with_reducible rfl) | (simp; done))) | (with_reducible refine Blk.alloc ?_ _) | (with_reducible refine Blk.after ?_ ‹_›) | (with_reducible refine Blk.far ?_ (by first | (simp; done) | (simp; omega)) _))), (by repeat (first | (with_reducible exact Below.refl _ _) | (with_reducible assumption) | (with_reducible refine bl_alloc ?_ _) | (with_reducible refine bl_drew ?_) | (with_reducible refine bl_drewN ?_ _) | (with_reducible refine bl_set ?_ (by first | (simp; done) | (simp; omega)) _) | (with_reducible refine bl_trans ?_ ‹_›)))⟩
    case rest =>
      clear bA bY bZ hbel ka0 ka1 ky0 ky1 kz0 kz1 hY1 hZ1 hA1
      obtain ⟨rfl, bA, hbel⟩ := hcut
      obtain ⟨ka0, ka1, _⟩ := blk_two bA
      go_wp2_with fail
      rw [i64_and127]
      obtain ⟨K, hK⟩ : ∃ K : Nat, k % 128 = K := ⟨(k % 128).toNat, by omega⟩
      have hK2 : K < 128 := by omega
      rw [hK]
      clear hK
      refine (len_c _ _ _ (hi_nn _) (hi_lt _) (lo_nn _) (lo_lt _)).mono ?_
      rw [num_hi_lo ha]
      rintro e w1 ⟨rfl, hb1⟩
      have hl128 : lenN a ≤ 128 := lenN_le ha
      have bA1 := bA.after hb1
      have hbel1 := bl_trans hbel hb1
      clear bA hbel ka0 ka1
      obtain ⟨ka0, ka1, _⟩ := blk_two bA1
      by_cases hbig : 128 < lenN a + K
      · have d1 : decide ((128 : Int) < (lenN a : Int) + K) = true := decide_eq_true (by omega)
        go_wp2_with fail
        go_ret
        exact ⟨rfl, hbel1⟩
      · have d1 : decide ((128 : Int) < (lenN a : Int) + K) = false := decide_eq_false (by omega)
        have hlt := shlN_lt a K ha
        have hsr := shl_shr (a := a) (k := K) (by omega) hK2 hlt
        have HSR := Lib.hid hsr
        clear hsr
        go_wp2_with fail
        by_cases h0 : a = 0 ∧ K ≠ 0
        · obtain ⟨rfl, hK0⟩ := h0
          have hl0 : lenN (shlN 0 (K : Int)) = 0 := by rw [shl_exact (by unfold lenN; simp; omega) hK2]; simp [lenN]
          have hl1 : lenN 0 = 0 := rfl
          have HL0 := Lib.hid hl0
          have HL1 := Lib.hid hl1
          have dK : ((0 : Int) == (K : Int)) = false := by simp; omega
          have hw : IntKind.i64.wrap (K : Int) = K := IntWalk.i64_in _ (by omega)
          have n0 : num 0 0 = 0 := rfl
          have v0 : numV 0 = .agg #[.int .u64 0, .int .u64 0] := rfl
          have N0 := Lib.hid n0
          have V0 := Lib.hid v0
          clear hl0 hl1 n0 v0
          have bA2 : Blk w1 w.heap.size 24 #[.int .u64 0, .int .u64 0] := bA1
          clear bA1 ka0 ka1
          obtain ⟨ka0, ka1, _⟩ := blk_two bA2
          go_region_held3 (fun w' => w'.cell? ⟨w.heap.size, 0, none⟩ = some (.int .u64 0) ∧ w'.cell? ⟨w.heap.size, 1, none⟩ = some (.int .u64 0) ∧ Blk w' w.heap.size 24 #[.int .u64 0, .int .u64 0])
            (exact blk_two (by repeat (first | (with_reducible assumption) | (with_reducible refine blk_fill (u := .int .u64 0) (v := .int .u64 0) ?_) | (with_reducible refine Blk.drew ?_) | (with_reducible refine Blk.new' _ _ _ _ (by first | (with_reducible rfl) | (simp; done))) | (with_reducible refine Blk.alloc ?_ _) | (with_reducible refine Blk.after ?_ ‹_›) | (with_reducible refine Blk.far ?_ (by first | (simp; done) | (simp; omega)) _))))
            (first
            | (go_at_call 13; refine (shl_c 0 0 K _ (by omega) (by omega) (by omega) (by omega) (by omega)).mono ?_; rw [N0.out]; rintro e w1 ⟨rfl, hb1⟩)
            | (go_at_call 12; refine (shr_c _ _ _ _ (hi_nn _) (hi_lt _) (lo_nn _) (lo_lt _) (by omega)).mono ?_; rw [num_hi_lo hlt, HSR.out, V0.out]; rintro e w1 ⟨rfl, hb1⟩)
            | (go_at_call 11; refine (len_c _ _ _ (by first | omega | exact hi_nn _) (by first | omega | exact hi_lt _) (by first | omega | exact lo_nn _) (by first | omega | exact lo_lt _)).mono ?_; (first | rw [num_hi_lo hlt, HL0.out] | rw [N0.out, HL1.out]); rintro e w1 ⟨rfl, hb1⟩))
          all_goals
            go_wp2_with fail
            go_ret
            exact ⟨rfl, (by repeat (first | (with_reducible exact Below.refl _ _) | (with_reducible assumption) | (with_reducible refine bl_alloc ?_ _) | (with_reducible refine bl_drew ?_) | (with_reducible refine bl_drewN ?_ _) | (with_reducible refine bl_set ?_ (by first | (simp; done) | (simp; omega)) _) | (with_reducible refine bl_trans ?_ ‹_›)))⟩
        · have hls : lenN (shlN a (K : Int)) = lenN a + K := by
            by_cases ha0 : a = 0
            · obtain rfl : K = 0 := by
                rcases Nat.eq_zero_or_pos K with h | h
                · exact h
                · exact absurd ⟨ha0, by omega⟩ h0
              subst ha0; rfl
            · exact len_shl ha0 (by omega) hK2
          have HLS := Lib.hid hls
          have hw : IntKind.i64.wrap ((lenN a : Int) + (K : Int)) = (lenN a : Int) + (K : Int) := IntWalk.i64_in _ (by omega)
          have dK : (((lenN a + K : Nat) : Int) == (lenN a : Int) + (K : Int)) = true := by simp
          have dK2 : ((lenN a : Int) + (K : Int) == (lenN a : Int) + (K : Int)) = true := by simp
          clear hls h0
          refine wp_region_held_drew (S := fun w' => w'.cell? ⟨w.heap.size, 0, none⟩ = some (.int .u64 (hi a)) ∧ w'.cell? ⟨w.heap.size, 1, none⟩ = some (.int .u64 (lo a)) ∧ Blk w' w.heap.size 24 #[.int .u64 (hi a), .int .u64 (lo a)]) (by kernel_rfl) ?_ (fun hHeld => ?_)
          · exact blk_two (by repeat (first | (with_reducible assumption) | (with_reducible refine blk_fill (u := .int .u64 0) (v := .int .u64 0) ?_) | (with_reducible refine Blk.drew ?_) | (with_reducible refine Blk.new' _ _ _ _ (by first | (with_reducible rfl) | (simp; done))) | (with_reducible refine Blk.alloc ?_ _) | (with_reducible refine Blk.after ?_ ‹_›) | (with_reducible refine Blk.far ?_ (by first | (simp; done) | (simp; omega)) _)))
          refine wpAnyH_take (i := 0) (v := ?_) rfl (by kernel_rfl) (by kernel_rfl) (by kernel_rfl) (fun _ _ _ h => h) (Or.inl ⟨by rfl, ?_⟩) (by assumption) ?_
          rotate_left
          · intro w hSw; (try dsimp only at hSw); go_simp; try with_reducible rfl
          try simp only [Act.put, List.setIfInBounds_toArray, List.set_cons_zero, List.set_cons_succ, List.getElem_toArray, List.getElem_cons_zero, List.getElem_cons_succ]
          refine wpAnyH_take (i := 1) (v := ?_) rfl (by kernel_rfl) (by kernel_rfl) (by kernel_rfl) (fun _ _ _ h => h) (Or.inl ⟨by rfl, ?_⟩) (by assumption) ?_
          rotate_left
          · intro w hSw; (try dsimp only at hSw); go_simp; try with_reducible rfl
          try simp only [Act.put, List.setIfInBounds_toArray, List.set_cons_zero, List.set_cons_succ, List.getElem_toArray, List.getElem_cons_zero, List.getElem_cons_succ]
          refine wpAnyH_take (i := 3) (v := ?_) rfl (by kernel_rfl) (by kernel_rfl) (by kernel_rfl) (fun _ _ _ h => h) (Or.inl ⟨by rfl, ?_⟩) (by assumption) ?_
          rotate_left
          · intro w hSw; (try dsimp only at hSw); go_simp; try with_reducible rfl
          try simp only [Act.put, List.setIfInBounds_toArray, List.set_cons_zero, List.set_cons_succ, List.getElem_toArray, List.getElem_cons_zero, List.getElem_cons_succ]
          refine wpAnyH_take (i := 5) (v := ?_) rfl (by kernel_rfl) (by kernel_rfl) (by kernel_rfl) (fun _ _ _ h => h) (Or.inl ⟨by rfl, ?_⟩) (by assumption) ?_
          rotate_left
          · intro w hSw; (try dsimp only at hSw); go_simp; try with_reducible rfl
          try simp only [Act.put, List.setIfInBounds_toArray, List.set_cons_zero, List.set_cons_succ, List.getElem_toArray, List.getElem_cons_zero, List.getElem_cons_succ]
          refine wpAnyH_ready (rs := [2]) (by kernel_rfl) (by simp) ?_
          refine AllReadyH.cons rfl (fun K hK => ?_) AllReadyH.nil
          go_simp
          (go_at_call 13; refine (shl_c _ _ _ _ (hi_nn _) (hi_lt _) (lo_nn _) (lo_lt _) (by omega)).mono ?_; rw [num_hi_lo ha]; rintro e w1 ⟨rfl, hb1⟩)
          refine hK.out _ _ ?_ (fun hHeld => ?_)
          · exact blk_two (by repeat (first | (with_reducible assumption) | (with_reducible refine blk_fill (u := .int .u64 0) (v := .int .u64 0) ?_) | (with_reducible refine Blk.drew ?_) | (with_reducible refine Blk.new' _ _ _ _ (by first | (with_reducible rfl) | (simp; done))) | (with_reducible refine Blk.alloc ?_ _) | (with_reducible refine Blk.after ?_ ‹_›) | (with_reducible refine Blk.far ?_ (by first | (simp; done) | (simp; omega)) _)))
          clear hK K
          try simp only [Act.put, List.setIfInBounds_toArray, List.set_cons_zero, List.set_cons_succ, List.getElem_toArray, List.getElem_cons_zero, List.getElem_cons_succ]
          refine wpAnyH_ready (rs := [4]) (by kernel_rfl) (by simp) ?_
          refine AllReadyH.cons rfl (fun K hK => ?_) AllReadyH.nil
          go_simp
          (go_at_call 12; refine (shr_c _ _ _ _ (hi_nn _) (hi_lt _) (lo_nn _) (lo_lt _) (by omega)).mono ?_; rw [num_hi_lo hlt, HSR.out]; rintro e w1 ⟨rfl, hb1⟩)
          refine hK.out _ _ ?_ (fun hHeld => ?_)
          · exact blk_two (by repeat (first | (with_reducible assumption) | (with_reducible refine blk_fill (u := .int .u64 0) (v := .int .u64 0) ?_) | (with_reducible refine Blk.drew ?_) | (with_reducible refine Blk.new' _ _ _ _ (by first | (with_reducible rfl) | (simp; done))) | (with_reducible refine Blk.alloc ?_ _) | (with_reducible refine Blk.after ?_ ‹_›) | (with_reducible refine Blk.far ?_ (by first | (simp; done) | (simp; omega)) _)))
          clear hK K
          try simp only [Act.put, List.setIfInBounds_toArray, List.set_cons_zero, List.set_cons_succ, List.getElem_toArray, List.getElem_cons_zero, List.getElem_cons_succ]
          refine wpAnyH_take (i := 6) (v := ?_) rfl (by kernel_rfl) (by kernel_rfl) (by kernel_rfl) (fun _ _ _ h => h) (Or.inl ⟨by rfl, ?_⟩) (by assumption) ?_
          rotate_left
          · intro w hSw; (try dsimp only at hSw); go_simp; try with_reducible rfl
          try simp only [Act.put, List.setIfInBounds_toArray, List.set_cons_zero, List.set_cons_succ, List.getElem_toArray, List.getElem_cons_zero, List.getElem_cons_succ]
          refine wpAnyH_take (i := 7) (v := ?_) rfl (by kernel_rfl) (by kernel_rfl) (by kernel_rfl) (fun _ _ _ h => h) (Or.inl ⟨by rfl, ?_⟩) (by assumption) ?_
          rotate_left
          · intro w hSw; (try dsimp only at hSw); go_simp; try with_reducible rfl
          try simp only [Act.put, List.setIfInBounds_toArray, List.set_cons_zero, List.set_cons_succ, List.getElem_toArray, List.getElem_cons_zero, List.getElem_cons_succ]
          refine wpAnyH_take (i := 8) (v := ?_) rfl (by kernel_rfl) (by kernel_rfl) (by kernel_rfl) (fun _ _ _ h => h) (Or.inl ⟨by rfl, ?_⟩) (by assumption) ?_
          rotate_left
          · intro w hSw; (try dsimp only at hSw); go_simp; try with_reducible rfl
          try simp only [Act.put, List.setIfInBounds_toArray, List.set_cons_zero, List.set_cons_succ, List.getElem_toArray, List.getElem_cons_zero, List.getElem_cons_succ]
          refine wpAnyH_take (i := 9) (v := ?_) rfl (by kernel_rfl) (by kernel_rfl) (by kernel_rfl) (fun _ _ _ h => h) (Or.inl ⟨by rfl, ?_⟩) (by assumption) ?_
          rotate_left
          · intro w hSw; (try dsimp only at hSw); go_simp; try with_reducible rfl
          try simp only [Act.put, List.setIfInBounds_toArray, List.set_cons_zero, List.set_cons_succ, List.getElem_toArray, List.getElem_cons_zero, List.getElem_cons_succ]
          refine wpAnyH_take (i := 12) (v := ?_) rfl (by kernel_rfl) (by kernel_rfl) (by kernel_rfl) (fun _ _ _ h => h) (Or.inl ⟨by rfl, ?_⟩) (by assumption) ?_
          rotate_left
          · intro w hSw; (try dsimp only at hSw); go_simp; try with_reducible rfl
          try simp only [Act.put, List.setIfInBounds_toArray, List.set_cons_zero, List.set_cons_succ, List.getElem_toArray, List.getElem_cons_zero, List.getElem_cons_succ]
          refine wpAnyH_take (i := 14) (v := ?_) rfl (by kernel_rfl) (by kernel_rfl) (by kernel_rfl) (fun _ _ _ h => h) (Or.inl ⟨by rfl, ?_⟩) (by assumption) ?_
          rotate_left
          · intro w hSw; (try dsimp only at hSw); go_simp; try with_reducible rfl
          try simp only [Act.put, List.setIfInBounds_toArray, List.set_cons_zero, List.set_cons_succ, List.getElem_toArray, List.getElem_cons_zero, List.getElem_cons_succ]
          refine wpAnyH_ready (rs := [10]) (by kernel_rfl) (by simp) ?_
          refine AllReadyH.cons rfl (fun K hK => ?_) AllReadyH.nil
          go_simp
          (go_at_call 13; refine (shl_c _ _ _ _ (hi_nn _) (hi_lt _) (lo_nn _) (lo_lt _) (by omega)).mono ?_; rw [num_hi_lo ha]; rintro e w1 ⟨rfl, hb1⟩)
          refine hK.out _ _ ?_ (fun hHeld => ?_)
          · exact blk_two (by repeat (first | (with_reducible assumption) | (with_reducible refine blk_fill (u := .int .u64 0) (v := .int .u64 0) ?_) | (with_reducible refine Blk.drew ?_) | (with_reducible refine Blk.new' _ _ _ _ (by first | (with_reducible rfl) | (simp; done))) | (with_reducible refine Blk.alloc ?_ _) | (with_reducible refine Blk.after ?_ ‹_›) | (with_reducible refine Blk.far ?_ (by first | (simp; done) | (simp; omega)) _)))
          clear hK K
          try simp only [Act.put, List.setIfInBounds_toArray, List.set_cons_zero, List.set_cons_succ, List.getElem_toArray, List.getElem_cons_zero, List.getElem_cons_succ]
          refine wpAnyH_ready (rs := [11]) (by kernel_rfl) (by simp) ?_
          refine AllReadyH.cons rfl (fun K hK => ?_) AllReadyH.nil
          go_simp
          (go_at_call 11; refine (len_c _ _ _ (hi_nn _) (hi_lt _) (lo_nn _) (lo_lt _)).mono ?_; rw [num_hi_lo hlt, HLS.out]; rintro e w1 ⟨rfl, hb1⟩)
          refine hK.out _ _ ?_ (fun hHeld => ?_)
          · exact blk_two (by repeat (first | (with_reducible assumption) | (with_reducible refine blk_fill (u := .int .u64 0) (v := .int .u64 0) ?_) | (with_reducible refine Blk.drew ?_) | (with_reducible refine Blk.new' _ _ _ _ (by first | (with_reducible rfl) | (simp; done))) | (with_reducible refine Blk.alloc ?_ _) | (with_reducible refine Blk.after ?_ ‹_›) | (with_reducible refine Blk.far ?_ (by first | (simp; done) | (simp; omega)) _)))
          clear hK K
          try simp only [Act.put, List.setIfInBounds_toArray, List.set_cons_zero, List.set_cons_succ, List.getElem_toArray, List.getElem_cons_zero, List.getElem_cons_succ]
          refine wpAnyH_ready (rs := [13]) (by kernel_rfl) (by simp) ?_
          refine AllReadyH.cons rfl (fun K hK => ?_) AllReadyH.nil
          go_simp
          (go_at_call 11; refine (len_c _ _ _ (hi_nn _) (hi_lt _) (lo_nn _) (lo_lt _)).mono ?_; rw [num_hi_lo ha]; rintro e w1 ⟨rfl, hb1⟩)
          refine hK.out _ _ ?_ (fun hHeld => ?_)
          · exact blk_two (by repeat (first | (with_reducible assumption) | (with_reducible refine blk_fill (u := .int .u64 0) (v := .int .u64 0) ?_) | (with_reducible refine Blk.drew ?_) | (with_reducible refine Blk.new' _ _ _ _ (by first | (with_reducible rfl) | (simp; done))) | (with_reducible refine Blk.alloc ?_ _) | (with_reducible refine Blk.after ?_ ‹_›) | (with_reducible refine Blk.far ?_ (by first | (simp; done) | (simp; omega)) _)))
          clear hK K
          try simp only [Act.put, List.setIfInBounds_toArray, List.set_cons_zero, List.set_cons_succ, List.getElem_toArray, List.getElem_cons_zero, List.getElem_cons_succ]
          refine wpAnyH_take (i := 15) (v := ?_) rfl (by kernel_rfl) (by kernel_rfl) (by kernel_rfl) (fun _ _ _ h => h) (Or.inl ⟨by rfl, ?_⟩) (by assumption) ?_
          rotate_left
          · intro w hSw; (try dsimp only at hSw); go_simp; try with_reducible rfl
          try simp only [Act.put, List.setIfInBounds_toArray, List.set_cons_zero, List.set_cons_succ, List.getElem_toArray, List.getElem_cons_zero, List.getElem_cons_succ]
          refine wpAnyH_take (i := 16) (v := ?_) rfl (by kernel_rfl) (by kernel_rfl) (by kernel_rfl) (fun _ _ _ h => h) (Or.inl ⟨by rfl, ?_⟩) (by assumption) ?_
          rotate_left
          · intro w hSw; (try dsimp only at hSw); go_simp; try with_reducible rfl
          try simp only [Act.put, List.setIfInBounds_toArray, List.set_cons_zero, List.set_cons_succ, List.getElem_toArray, List.getElem_cons_zero, List.getElem_cons_succ]
          refine wpAnyH_take (i := 17) (v := ?_) rfl (by kernel_rfl) (by kernel_rfl) (by kernel_rfl) (fun _ _ _ h => h) (Or.inl ⟨by rfl, ?_⟩) (by assumption) ?_
          rotate_left
          · intro w hSw; (try dsimp only at hSw); go_simp; try with_reducible rfl
          try simp only [Act.put, List.setIfInBounds_toArray, List.set_cons_zero, List.set_cons_succ, List.getElem_toArray, List.getElem_cons_zero, List.getElem_cons_succ]
          refine wpAnyH_take (i := 18) (v := ?_) rfl (by kernel_rfl) (by kernel_rfl) (by kernel_rfl) (fun _ _ _ h => h) (Or.inl ⟨by rfl, ?_⟩) (by assumption) ?_
          rotate_left
          · intro w hSw; (try dsimp only at hSw); go_simp; try with_reducible rfl
          try simp only [Act.put, List.setIfInBounds_toArray, List.set_cons_zero, List.set_cons_succ, List.getElem_toArray, List.getElem_cons_zero, List.getElem_cons_succ]
          refine wpAnyH_take (i := 19) (v := undef) rfl (by kernel_rfl) (by kernel_rfl) (by kernel_rfl) (fun _ _ _ h => h) (Or.inr ⟨by rfl, rfl⟩) (by assumption) ?_
          try simp only [Act.put, List.setIfInBounds_toArray, List.set_cons_zero, List.set_cons_succ, List.getElem_toArray, List.getElem_cons_zero, List.getElem_cons_succ]
          refine wpAnyH_take (i := 20) (v := undef) rfl (by kernel_rfl) (by kernel_rfl) (by kernel_rfl) (fun _ _ _ h => h) (Or.inr ⟨by rfl, rfl⟩) (by assumption) ?_
          try simp only [Act.put, List.setIfInBounds_toArray, List.set_cons_zero, List.set_cons_succ, List.getElem_toArray, List.getElem_cons_zero, List.getElem_cons_succ]
          refine wpAnyH_take (i := 21) (v := undef) rfl (by kernel_rfl) (by kernel_rfl) (by kernel_rfl) (fun _ _ _ h => h) (Or.inr ⟨by rfl, rfl⟩) (by assumption) ?_
          try simp only [Act.put, List.setIfInBounds_toArray, List.set_cons_zero, List.set_cons_succ, List.getElem_toArray, List.getElem_cons_zero, List.getElem_cons_succ]
          refine wpAnyH_take (i := 22) (v := ?_) rfl (by kernel_rfl) (by kernel_rfl) (by kernel_rfl) (fun _ _ _ h => h) (Or.inl ⟨by rfl, ?_⟩) (by assumption) ?_
          rotate_left
          · intro w hSw; (try dsimp only at hSw); go_simp; try with_reducible rfl
          try simp only [Act.put, List.setIfInBounds_toArray, List.set_cons_zero, List.set_cons_succ, List.getElem_toArray, List.getElem_cons_zero, List.getElem_cons_succ]
          refine wpAnyH_take (i := 23) (v := ?_) rfl (by kernel_rfl) (by kernel_rfl) (by kernel_rfl) (fun _ _ _ h => h) (Or.inl ⟨by rfl, ?_⟩) (by assumption) ?_
          rotate_left
          · intro w hSw; (try dsimp only at hSw); go_simp; try with_reducible rfl
          try simp only [Act.put, List.setIfInBounds_toArray, List.set_cons_zero, List.set_cons_succ, List.getElem_toArray, List.getElem_cons_zero, List.getElem_cons_succ]
          refine wpAnyH_done (by kernel_rfl) ?_ _
          go_wp2_with fail
          go_ret
          exact ⟨rfl, (by repeat (first | (with_reducible exact Below.refl _ _) | (with_reducible assumption) | (with_reducible refine bl_alloc ?_ _) | (with_reducible refine bl_drew ?_) | (with_reducible refine bl_drewN ?_ _) | (with_reducible refine bl_set ?_ (by first | (simp; done) | (simp; omega)) _) | (with_reducible refine bl_trans ?_ ‹_›)))⟩
end Go.Proofs.Ytnhaejbakgjelaa
