/- The walk of num.Parse at a formed text. -/
import Derived.Test.YtnhaejbakgjelaaDoorTxB
import Derived.Deep.DeepCutAuto
import Derived.Deep.CutBlock
namespace Go.Proofs.YtnhaejbakgjelaaDoor
open Go.RowKit

/-- one digit more -/
theorem val_step {s : ByteArray} {k : Nat} (_h : valN (tD s) k < 340282366920938463463374607431768211456) :
    (timesF (valN (tD s) k) 10 && addF (timesN (valN (tD s) k) 10) (tD s k)) = decide (valN (tD s) (k + 1) < 340282366920938463463374607431768211456) ∧
    (valN (tD s) (k + 1) < 340282366920938463463374607431768211456 → addN (timesN (valN (tD s) k) 10) (tD s k) = valN (tD s) (k + 1)) := by
  rw [valN]
  unfold timesF timesN addF addN
  generalize valN (tD s) k = v at *
  generalize tD s k = d at *
  refine ⟨?_, fun h => ?_⟩
  · rw [Bool.eq_iff_iff]
    simp only [Bool.and_eq_true, decide_eq_true_eq]
    constructor
    · rintro ⟨h1, h2⟩; rw [Nat.mod_eq_of_lt h1] at h2; exact h2
    · intro h; have h1 : v * 10 < 340282366920938463463374607431768211456 := by omega
      exact ⟨h1, by rw [Nat.mod_eq_of_lt h1]; exact h⟩
  · rw [Nat.mod_eq_of_lt (by omega : v * 10 < 340282366920938463463374607431768211456), Nat.mod_eq_of_lt h]
theorem timesN_lt2 (a k : Nat) : timesN a k < 340282366920938463463374607431768211456 := Nat.mod_lt _ (by omega)
theorem addN_lt2 (a b : Nat) : addN a b < 340282366920938463463374607431768211456 := Nat.mod_lt _ (by omega)
theorem times_k (v : Nat) (w : World) (hv : v < 340282366920938463463374607431768211456) :
    Calls Tryd.prog 51 #[numV v, .int .u64 10] w fun e w' => e = .returned (.tuple #[numV (timesN v 10), .bool (timesF v 10)]) ∧ Below w.heap.size w w' := by
  have := times_c (hi v) (lo v) 10 w (hi_nn _) (hi_lt _) (lo_nn _) (lo_lt _) (by omega) (by omega)
  rw [num_hi_lo hv] at this
  exact this
theorem of_k (d : Nat) (w : World) (hd : d < 18446744073709551616) : Calls Tryd.prog 46 #[.int .u64 d] w fun e w' => e = .returned (numV d) ∧ Below w.heap.size w w' := by
  have := of_c (d : Int) w (by omega) (by omega)
  rw [Int.toNat_natCast] at this
  exact this
theorem add_k (a b : Nat) (w : World) (ha : a < 340282366920938463463374607431768211456) (hb : b < 340282366920938463463374607431768211456) :
    Calls Tryd.prog 52 #[numV a, numV b] w fun e w' => e = .returned (.tuple #[numV (addN a b), .bool (addF a b)]) ∧ Below w.heap.size w w' := by
  have := add_c (hi a) (lo a) (hi b) (lo b) w (hi_nn _) (hi_lt _) (lo_nn _) (lo_lt _) (hi_nn _) (hi_lt _) (lo_nn _) (lo_lt _)
  rw [num_hi_lo ha, num_hi_lo hb] at this
  exact this
/-- what the reading of a formed text answers -/
def Read (s : ByteArray) (w0 : World) (e : Ending) (w : World) : Prop :=
  (valN (tD s) s.size < 340282366920938463463374607431768211456 → e = .returned (.tuple #[numV (valN (tD s) s.size), .int .i64 0])) ∧
  (340282366920938463463374607431768211456 ≤ valN (tD s) s.size → e = .returned (.tuple #[.agg #[.int .u64 0, .int .u64 0], .int .i64 11])) ∧ Below w0.heap.size w0 w
set_option maxRecDepth 100000 in
set_option maxHeartbeats 1600000 in
theorem parse_f (s : ByteArray) (w : World) (hs : s.size ≤ 1000) (h : formed s) :
    Calls Tryd.prog 31 #[.string s] w (Read s w) := by
  have HF := Lib.hid h
  obtain ⟨h0, h1, hd⟩ := h
  have HD := Lib.hid hd
  have hne : ¬ s = ⟨#[]⟩ := fun e => h0 (by rw [e]; rfl)
  have he := emp_no hne
  have hsz : 0 < s.size := by omega
  have h48 : 1 < s.size → ¬ ((((s[0]'(by omega)).toNat : Nat) : Int) == 48) = true := fun a e => h1 ⟨a, by rw [tB_at hsz]; have := eq_of_beq e; omega⟩
  have hcase : decide (1 < (s.size : Int)) = false ∨ (decide (1 < (s.size : Int)) = true ∧ ((((s[0]'(by omega)).toNat : Nat) : Int) == 48) = false) := by
    by_cases k : 1 < s.size
    · exact .inr ⟨decide_eq_true (by omega), Bool.eq_false_iff.2 (h48 k)⟩
    · exact .inl (decide_eq_false (by omega))
  clear h1 h48
  go_enter Tryd.func31, Tryd.ntmps31
  go_wp2_with fail
  refine (trim_c s _ (by omega)).mono ?_
  rintro e w1 ⟨t, rfl, ht, hb1⟩
  have hte := emp_yes (ht.2 hd)
  have hx : Blk w1 w.heap.size 56 #[.int .u64 0, .int .u64 0] := (by repeat (first | (with_reducible assumption) | (with_reducible refine blk_fill (u := .int .u64 0) (v := .int .u64 0) ?_) | (with_reducible refine Blk.drew ?_) | (with_reducible refine Blk.new' _ _ _ _ (by first | (with_reducible rfl) | (simp; done))) | (with_reducible refine Blk.alloc ?_ _) | (with_reducible refine Blk.after ?_ ‹_›) | (with_reducible refine Blk.far ?_ (by first | (simp; done) | (simp; omega)) _)))
  have hb2 : Below w.heap.size w w1 := (by repeat (first | (with_reducible exact Below.refl _ _) | (with_reducible assumption) | (with_reducible refine bl_alloc ?_ _) | (with_reducible refine bl_drew ?_) | (with_reducible refine bl_drewN ?_ _) | (with_reducible refine bl_set ?_ (by first | (simp; done) | (simp; omega)) _) | (with_reducible refine bl_trans ?_ ‹_›)))
  obtain ⟨x0, x1, _⟩ := blk_two hx
  have z0 := hx.frozen 0
  have z1 := hx.frozen 1
  clear ht hb1 hd
  rcases hcase with c1 | ⟨c1, c2⟩
  all_goals
    clear hne h0
    go_wp2_with fail
    go_loopw [30] (fun i wr => ∃ k : Nat, k ≤ s.size ∧ i = .int .i64 k ∧ valN (tD s) k < 340282366920938463463374607431768211456 ∧ Blk wr w1.heap.size 56 #[.int .u64 (hi (valN (tD s) k)), .int .u64 (lo (valN (tD s) k))] ∧ Blk wr w.heap.size 56 #[.int .u64 0, .int .u64 0] ∧ Below w.heap.size w wr) (fun i _ => s.size - (intOf i).toNat)
    case atStart => exact ⟨0, by omega, rfl, (by show 0 < _; omega), (by rw [show valN (tD s) 0 = 0 from rfl, show hi 0 = 0 from rfl, show lo 0 = 0 from rfl]; exact Blk.new _ _ _), (by repeat (first | (with_reducible assumption) | (with_reducible refine blk_fill (u := .int .u64 0) (v := .int .u64 0) ?_) | (with_reducible refine Blk.drew ?_) | (with_reducible refine Blk.new' _ _ _ _ (by first | (with_reducible rfl) | (simp; done))) | (with_reducible refine Blk.alloc ?_ _) | (with_reducible refine Blk.after ?_ ‹_›) | (with_reducible refine Blk.far ?_ (by first | (simp; done) | (simp; omega)) _))), (by repeat (first | (with_reducible exact Below.refl _ _) | (with_reducible assumption) | (with_reducible refine bl_alloc ?_ _) | (with_reducible refine bl_drew ?_) | (with_reducible refine bl_drewN ?_ _) | (with_reducible refine bl_set ?_ (by first | (simp; done) | (simp; omega)) _) | (with_reducible refine bl_trans ?_ ‹_›)))⟩
    case round =>
      obtain ⟨k, hk, rfl, hv, hb4, hbR, hbel⟩ := hrel
      have hb2s := hx.lt
      clear x0 x1 z0 z1 hx hb2
      by_cases hlt : k < s.size
      · have dk : decide (k < s.size) = true := decide_eq_true hlt
        obtain ⟨q1, q2⟩ := val_step hv
        have Q1 := Lib.hid q1
        have Q2 := Lib.hid q2
        have hdig := HD.out k hlt
        have hdd : tD s k < 10 := tD_lt HD.out k
        have hbd : (s[k].toNat : Nat) = 48 + tD s k := by unfold tD; rw [tB_at hlt] at hdig ⊢; omega
        have hsub : IntKind.u8.wrap (((s[k].toNat : Nat) : Int) - 48) = (tD s k : Int) := by rw [hbd]; show (((48 + tD s k : Nat) : Int) - 48) % 256 = _; omega
        have hmono := valN_mono (tD s) (k + 1) (s.size - (k + 1))
        rw [show k + 1 + (s.size - (k + 1)) = s.size from by omega] at hmono
        have HM := Lib.hid hmono
        have HS := Lib.hid hsub
        clear q1 q2 hdig hmono hsub hbd
        obtain ⟨v0, v1, _⟩ := blk_two hb4
        have hlR := hbR.lt
        have hl4 := hb4.lt
        have hbt := timesN_lt2 (valN (tD s) k) 10
        go_upto_region 7 with (fail)
        go_cut [6, 7] (fun s6 s7 wc => ∃ g6 : Nat, s6 = .pointer (some ⟨g6, 0, none⟩) ∧ s7 = .bool (timesF (valN (tD s) k) 10) ∧ Blk wc g6 56 #[.int .u64 (hi (timesN (valN (tD s) k) 10)), .int .u64 (lo (timesN (valN (tD s) k) 10))] ∧ Blk wc w1.heap.size 56 #[.int .u64 (hi (valN (tD s) k)), .int .u64 (lo (valN (tD s) k))] ∧ Blk wc w.heap.size 56 #[.int .u64 0, .int .u64 0] ∧ Below w.heap.size w wc)
        case first =>
          go_wp2_with fail
          refine (times_k (valN (tD s) k) _ hv).mono ?_
          rintro e w2 ⟨rfl, hb5⟩
          go_wp2_with fail
          go_meet
          case rel => exact ⟨_, rfl, rfl, (by repeat (first | (with_reducible assumption) | (with_reducible refine blk_fill (u := .int .u64 0) (v := .int .u64 0) ?_) | (with_reducible refine Blk.drew ?_) | (with_reducible refine Blk.new' _ _ _ _ (by first | (with_reducible rfl) | (simp; done))) | (with_reducible refine Blk.alloc ?_ _) | (with_reducible refine Blk.after ?_ ‹_›) | (with_reducible refine Blk.far ?_ (by first | (simp; done) | (simp; omega)) _))), (by repeat (first | (with_reducible assumption) | (with_reducible refine blk_fill (u := .int .u64 0) (v := .int .u64 0) ?_) | (with_reducible refine Blk.drew ?_) | (with_reducible refine Blk.new' _ _ _ _ (by first | (with_reducible rfl) | (simp; done))) | (with_reducible refine Blk.alloc ?_ _) | (with_reducible refine Blk.after ?_ ‹_›) | (with_reducible refine Blk.far ?_ (by first | (simp; done) | (simp; omega)) _))), (by repeat (first | (with_reducible assumption) | (with_reducible refine blk_fill (u := .int .u64 0) (v := .int .u64 0) ?_) | (with_reducible refine Blk.drew ?_) | (with_reducible refine Blk.new' _ _ _ _ (by first | (with_reducible rfl) | (simp; done))) | (with_reducible refine Blk.alloc ?_ _) | (with_reducible refine Blk.after ?_ ‹_›) | (with_reducible refine Blk.far ?_ (by first | (simp; done) | (simp; omega)) _))), (by repeat (first | (with_reducible exact Below.refl _ _) | (with_reducible assumption) | (with_reducible refine bl_alloc ?_ _) | (with_reducible refine bl_drew ?_) | (with_reducible refine bl_drewN ?_ _) | (with_reducible refine bl_set ?_ (by first | (simp; done) | (simp; omega)) _) | (with_reducible refine bl_trans ?_ ‹_›)))⟩
        case rest =>
          clear hb4 hbR hbel v0 v1 hlR hl4
          obtain ⟨g6, rfl, rfl, hb6, hb4, hbR, hbel⟩ := hcut
          have hlR := hbR.lt
          have hl4 := hb4.lt
          have hl6 := hb6.lt
          generalize hfo : timesF (valN (tD s) k) 10 = fo at *
          generalize hbo : timesN (valN (tD s) k) 10 = bo at *
          have hsub := HS.out
          have hcv : IntKind.u64.wrap (tD s k : Int) = (tD s k : Int) := by show (tD s k : Int) % 18446744073709551616 = _; omega
          go_upto_region 8 with (fail)
          go_cut [8, 9] (fun s8 s9 wd => ∃ g8 : Nat, s8 = .pointer (some ⟨g8, 0, none⟩) ∧ s9 = .bool (addF bo (tD s k)) ∧ Blk wd g8 56 #[.int .u64 (hi (addN bo (tD s k))), .int .u64 (lo (addN bo (tD s k)))] ∧ Blk wd w1.heap.size 56 #[.int .u64 (hi (valN (tD s) k)), .int .u64 (lo (valN (tD s) k))] ∧ Blk wd w.heap.size 56 #[.int .u64 0, .int .u64 0] ∧ Below w.heap.size w wd)
          case first =>
            go_region_held3 (fun w' => (w'.cell? ⟨g6, 0, none⟩ = some (.int .u64 (hi bo)) ∧ w'.cell? ⟨g6, 1, none⟩ = some (.int .u64 (lo bo)) ∧ Blk w' g6 56 #[.int .u64 (hi bo), .int .u64 (lo bo)]) ∧ Blk w' w1.heap.size 56 #[.int .u64 (hi (valN (tD s) k)), .int .u64 (lo (valN (tD s) k))] ∧ Blk w' w.heap.size 56 #[.int .u64 0, .int .u64 0] ∧ Below w.heap.size w w')
              (exact ⟨blk_two (by repeat (first | (with_reducible assumption) | (with_reducible refine blk_fill (u := .int .u64 0) (v := .int .u64 0) ?_) | (with_reducible refine Blk.drew ?_) | (with_reducible refine Blk.new' _ _ _ _ (by first | (with_reducible rfl) | (simp; done))) | (with_reducible refine Blk.alloc ?_ _) | (with_reducible refine Blk.after ?_ ‹_›) | (with_reducible refine Blk.far ?_ (by first | (simp; done) | (simp; omega)) _))), (by repeat (first | (with_reducible assumption) | (with_reducible refine blk_fill (u := .int .u64 0) (v := .int .u64 0) ?_) | (with_reducible refine Blk.drew ?_) | (with_reducible refine Blk.new' _ _ _ _ (by first | (with_reducible rfl) | (simp; done))) | (with_reducible refine Blk.alloc ?_ _) | (with_reducible refine Blk.after ?_ ‹_›) | (with_reducible refine Blk.far ?_ (by first | (simp; done) | (simp; omega)) _))), (by repeat (first | (with_reducible assumption) | (with_reducible refine blk_fill (u := .int .u64 0) (v := .int .u64 0) ?_) | (with_reducible refine Blk.drew ?_) | (with_reducible refine Blk.new' _ _ _ _ (by first | (with_reducible rfl) | (simp; done))) | (with_reducible refine Blk.alloc ?_ _) | (with_reducible refine Blk.after ?_ ‹_›) | (with_reducible refine Blk.far ?_ (by first | (simp; done) | (simp; omega)) _))), (by repeat (first | (with_reducible exact Below.refl _ _) | (with_reducible assumption) | (with_reducible refine bl_alloc ?_ _) | (with_reducible refine bl_drew ?_) | (with_reducible refine bl_drewN ?_ _) | (with_reducible refine bl_set ?_ (by first | (simp; done) | (simp; omega)) _) | (with_reducible refine bl_trans ?_ ‹_›)))⟩)
              (first
              | (go_at_call 46; refine (of_k (tD s k) _ (by omega)).mono ?_; rintro e w3 ⟨rfl, hb3⟩; obtain ⟨hc3, hf3⟩ := bcell hb3; have hz3 := hb3.size; (try simp only [size_alloc', size_setCell', size_drew'] at hz3); (try have hs3 : wc.heap.size < w3.heap.size := by omega))
              | (go_at_call 52; refine (add_k bo (tD s k) _ (by omega) (by omega)).mono ?_; rintro e w4 ⟨rfl, hb4⟩; obtain ⟨hc4, hf4⟩ := bcell hb4; have hz4 := hb4.size; (try simp only [size_alloc', size_setCell', size_drew'] at hz4); (try have hs4 : wc.heap.size < w4.heap.size := by omega); (try have hs5 : w3.heap.size < w4.heap.size := by omega)))
            all_goals
              go_wp2_with fail
              go_meet
              case rel => exact ⟨_, rfl, rfl, (by repeat (first | (with_reducible assumption) | (with_reducible refine blk_fill (u := .int .u64 0) (v := .int .u64 0) ?_) | (with_reducible refine Blk.drew ?_) | (with_reducible refine Blk.new' _ _ _ _ (by first | (with_reducible rfl) | (simp; done))) | (with_reducible refine Blk.alloc ?_ _) | (with_reducible refine Blk.after ?_ ‹_›) | (with_reducible refine Blk.far ?_ (by first | (simp; done) | (simp; omega)) _))), (by repeat (first | (with_reducible assumption) | (with_reducible refine blk_fill (u := .int .u64 0) (v := .int .u64 0) ?_) | (with_reducible refine Blk.drew ?_) | (with_reducible refine Blk.new' _ _ _ _ (by first | (with_reducible rfl) | (simp; done))) | (with_reducible refine Blk.alloc ?_ _) | (with_reducible refine Blk.after ?_ ‹_›) | (with_reducible refine Blk.far ?_ (by first | (simp; done) | (simp; omega)) _))), (by repeat (first | (with_reducible assumption) | (with_reducible refine blk_fill (u := .int .u64 0) (v := .int .u64 0) ?_) | (with_reducible refine Blk.drew ?_) | (with_reducible refine Blk.new' _ _ _ _ (by first | (with_reducible rfl) | (simp; done))) | (with_reducible refine Blk.alloc ?_ _) | (with_reducible refine Blk.after ?_ ‹_›) | (with_reducible refine Blk.far ?_ (by first | (simp; done) | (simp; omega)) _))), (by repeat (first | (with_reducible exact Below.refl _ _) | (with_reducible assumption) | (with_reducible refine bl_alloc ?_ _) | (with_reducible refine bl_drew ?_) | (with_reducible refine bl_drewN ?_ _) | (with_reducible refine bl_set ?_ (by first | (simp; done) | (simp; omega)) _) | (with_reducible refine bl_trans ?_ ‹_›)))⟩
          case rest =>
            clear hb6 hb4 hbR hbel hlR hl4 hl6 hsub hcv
            obtain ⟨g8, rfl, rfl, hb8, hb4, hbR, hbel⟩ := hcut
            have hlR := hbR.lt
            have hl4 := hb4.lt
            have hl8 := hb8.lt
            obtain ⟨r0, r1, _⟩ := blk_two hbR
            have rz0 := hbR.frozen 0
            have rz1 := hbR.frozen 1
            obtain ⟨n0, n1, _⟩ := blk_two hb8
            obtain ⟨o0, o1, _⟩ := blk_two hb4
            have oz0 := hb4.frozen 0
            have oz1 := hb4.frozen 1
            have hw1 : w.heap.size < w1.heap.size := hb2s
            generalize addF bo (tD s k) = f8 at *
            by_cases hok : valN (tD s) (k + 1) < 340282366920938463463374607431768211456
            · have e1 := Q1.out
              rw [decide_eq_true hok] at e1
              obtain ⟨rfl, rfl⟩ := Bool.and_eq_true_iff.1 e1
              have e2 := Q2.out hok
              rw [e2] at hb8 n0 n1
              clear e1 e2
              go_wp2_with fail
              go_roundw
              case rel => exact ⟨k + 1, by omega, by go_num, hok, blk_fill hb4, (by repeat (first | (with_reducible assumption) | (with_reducible refine blk_fill (u := .int .u64 0) (v := .int .u64 0) ?_) | (with_reducible refine Blk.drew ?_) | (with_reducible refine Blk.new' _ _ _ _ (by first | (with_reducible rfl) | (simp; done))) | (with_reducible refine Blk.alloc ?_ _) | (with_reducible refine Blk.after ?_ ‹_›) | (with_reducible refine Blk.far ?_ (by first | (simp; done) | (simp; omega)) _))), (by repeat (first | (with_reducible exact Below.refl _ _) | (with_reducible assumption) | (with_reducible refine bl_alloc ?_ _) | (with_reducible refine bl_drew ?_) | (with_reducible refine bl_drewN ?_ _) | (with_reducible refine bl_set ?_ (by first | (simp; done) | (simp; omega)) _) | (with_reducible refine bl_trans ?_ ‹_›)))⟩
              case measure => simp [intOf]; omega
            · have e1 := Q1.out
              rw [decide_eq_false hok] at e1
              have hge : 340282366920938463463374607431768211456 ≤ valN (tD s) s.size := by have := HM.out; omega
              have HG := Lib.hid hge
              clear hge hok
              rcases fo with _ | _ <;> rcases f8 with _ | _
              case true.true => cases e1
              all_goals
                clear e1
                go_wp2_with fail
                refine bodyPost_ret (v := .tuple #[.agg #[.int .u64 0, .int .u64 0], .int .i64 11]) (by simp [results, Tryd.results31, go_sem, r0, r1]) rfl ⟨fun h => absurd HG.out (by omega), fun _ => rfl, (by repeat (first | (with_reducible exact Below.refl _ _) | (with_reducible assumption) | (with_reducible refine bl_alloc ?_ _) | (with_reducible refine bl_drew ?_) | (with_reducible refine bl_drewN ?_ _) | (with_reducible refine bl_set ?_ (by first | (simp; done) | (simp; omega)) _) | (with_reducible refine bl_trans ?_ ‹_›)))⟩
      · have dk : decide (k < s.size) = false := decide_eq_false hlt
        obtain rfl : k = s.size := by omega
        have hlR := hbR.lt
        have hl4 := hb4.lt
        obtain ⟨r0, r1, _⟩ := blk_two hbR
        have rz0 := hbR.frozen 0
        have rz1 := hbR.frozen 1
        obtain ⟨n0, n1, _⟩ := blk_two hb4
        generalize hval : valN (tD s) s.size = V at *
        go_wp2_with fail
        refine bodyPost_ret (v := .tuple #[numV V, .int .i64 0]) (by simp [results, Tryd.results31, go_sem, r0, r1]) rfl ⟨fun _ => by rw [hval], fun h => absurd hv (by omega), (by repeat (first | (with_reducible exact Below.refl _ _) | (with_reducible assumption) | (with_reducible refine bl_alloc ?_ _) | (with_reducible refine bl_drew ?_) | (with_reducible refine bl_drewN ?_ _) | (with_reducible refine bl_set ?_ (by first | (simp; done) | (simp; omega)) _) | (with_reducible refine bl_trans ?_ ‹_›)))⟩
end Go.Proofs.YtnhaejbakgjelaaDoor
