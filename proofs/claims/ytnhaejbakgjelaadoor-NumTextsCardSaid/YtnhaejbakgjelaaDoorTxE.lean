/- The walk of the reference's Parse at a formed text. -/
import Derived.Test.YtnhaejbakgjelaaDoorTxD
namespace Go.Proofs.YtnhaejbakgjelaaDoor
open Go.RowKit

set_option maxRecDepth 100000 in
set_option maxHeartbeats 1600000 in
theorem rparse_f (s : ByteArray) (w : World) (hs : s.size ≤ 1000) (h : formed s) :
    Calls Tryd.prog 32 #[.string s] w (Read s w) := by
  have HF := Lib.hid h
  obtain ⟨h0, h1, hd⟩ := h
  have HD := Lib.hid hd
  clear hd
  have dz : ((s.size : Int) == 0) = false := by simpa using h0
  rcases lead_cases h0 h1 with c1 | ⟨c1, c2⟩
  all_goals
    go_enter Tryd.func32, Tryd.ntmps32
    go_wp2_with fail
    go_loopw [4] (fun i wr => ∃ k : Nat, k ≤ s.size ∧ i = .int .i64 k ∧ Blk wr w.heap.size 56 #[.int .u64 0, .int .u64 0] ∧ Below w.heap.size w wr) (fun i _ => s.size - (intOf i).toNat)
    case atStart => exact ⟨0, by omega, rfl, (by repeat (first | (with_reducible assumption) | (with_reducible refine blk_fill (u := .int .u64 0) (v := .int .u64 0) ?_) | (with_reducible refine Blk.drew ?_) | (with_reducible refine Blk.new' _ _ _ _ (by first | (with_reducible rfl) | (simp; done))) | (with_reducible refine Blk.alloc ?_ _) | (with_reducible refine Blk.after ?_ ‹_›) | (with_reducible refine Blk.far ?_ (by first | (simp; done) | (simp; omega)) _))), (by repeat (first | (with_reducible exact Below.refl _ _) | (with_reducible assumption) | (with_reducible refine bl_alloc ?_ _) | (with_reducible refine bl_drew ?_) | (with_reducible refine bl_drewN ?_ _) | (with_reducible refine bl_set ?_ (by first | (simp; done) | (simp; omega)) _) | (with_reducible refine bl_trans ?_ ‹_›)))⟩
    case round =>
      obtain ⟨k, hk, rfl, hbR, hbel⟩ := hrel
      have hlR := hbR.lt
      obtain ⟨r0, r1, _⟩ := blk_two hbR
      have rz0 := hbR.frozen 0
      have rz1 := hbR.frozen 1
      by_cases hlt : k < s.size
      · have dk : decide (k < s.size) = true := decide_eq_true hlt
        have hbt := tB_at hlt
        have hdig := HD.out k hlt
        have t1 : decide (((s[k].toNat : Nat) : Int) < 48) = false := decide_eq_false (by omega)
        have t2 : decide (57 < ((s[k].toNat : Nat) : Int)) = false := decide_eq_false (by omega)
        clear hbt hdig
        go_wp2_with fail
        go_roundw
        case rel => exact ⟨k + 1, by omega, by go_num, (by repeat (first | (with_reducible assumption) | (with_reducible refine blk_fill (u := .int .u64 0) (v := .int .u64 0) ?_) | (with_reducible refine Blk.drew ?_) | (with_reducible refine Blk.new' _ _ _ _ (by first | (with_reducible rfl) | (simp; done))) | (with_reducible refine Blk.alloc ?_ _) | (with_reducible refine Blk.after ?_ ‹_›) | (with_reducible refine Blk.far ?_ (by first | (simp; done) | (simp; omega)) _))), (by repeat (first | (with_reducible exact Below.refl _ _) | (with_reducible assumption) | (with_reducible refine bl_alloc ?_ _) | (with_reducible refine bl_drew ?_) | (with_reducible refine bl_drewN ?_ _) | (with_reducible refine bl_set ?_ (by first | (simp; done) | (simp; omega)) _) | (with_reducible refine bl_trans ?_ ‹_›)))⟩
        case measure => simp [intOf]; omega
      · have dk : decide (k < s.size) = false := decide_eq_false hlt
        obtain rfl : k = s.size := by omega
        clear hk hlt
        by_cases h39 : 39 < s.size
        · have d39 : decide (39 < (s.size : Int)) = true := decide_eq_true (by omega)
          have hge : 340282366920938463463374607431768211456 ≤ valN (tD s) s.size := by
            rcases Nat.lt_or_ge (valN (tD s) s.size) 340282366920938463463374607431768211456 with q | q
            · have := size_le HF.out q; omega
            · exact q
          have HG := Lib.hid hge
          clear hge
          go_wp2_with fail
          refine bodyPost_ret (v := .tuple #[.agg #[.int .u64 0, .int .u64 0], .int .i64 11]) (by simp [results, Tryd.results32, go_sem, r0, r1]) rfl ⟨fun h => absurd HG.out (by omega), fun _ => rfl, (by repeat (first | (with_reducible exact Below.refl _ _) | (with_reducible assumption) | (with_reducible refine bl_alloc ?_ _) | (with_reducible refine bl_drew ?_) | (with_reducible refine bl_drewN ?_ _) | (with_reducible refine bl_set ?_ (by first | (simp; done) | (simp; omega)) _) | (with_reducible refine bl_trans ?_ ‹_›)))⟩
        · have d39 : decide (39 < (s.size : Int)) = false := decide_eq_false (by omega)
          obtain ⟨w1, rfl⟩ : ∃ w1 : World, w1 = wr := ⟨_, rfl⟩
          clear dk
          go_wp2_with fail
          go_loopw [6] (fun i wr => ∃ k : Nat, k ≤ s.size ∧ i = .int .i64 k ∧ valN (tD s) k < 340282366920938463463374607431768211456 ∧ Blk wr w1.heap.size 56 #[.int .u64 (hi (valN (tD s) k)), .int .u64 (lo (valN (tD s) k))] ∧ Blk wr w.heap.size 56 #[.int .u64 0, .int .u64 0] ∧ Below w.heap.size w wr) (fun i _ => s.size - (intOf i).toNat)
          case atStart => exact ⟨0, by omega, rfl, (by show 0 < _; omega), (by rw [show valN (tD s) 0 = 0 from rfl, show hi 0 = 0 from rfl, show lo 0 = 0 from rfl]; exact (by repeat (first | (with_reducible assumption) | (with_reducible refine blk_fill (u := .int .u64 0) (v := .int .u64 0) ?_) | (with_reducible refine Blk.drew ?_) | (with_reducible refine Blk.new' _ _ _ _ (by first | (with_reducible rfl) | (simp; done))) | (with_reducible refine Blk.alloc ?_ _) | (with_reducible refine Blk.after ?_ ‹_›) | (with_reducible refine Blk.far ?_ (by first | (simp; done) | (simp; omega)) _)))), (by repeat (first | (with_reducible assumption) | (with_reducible refine blk_fill (u := .int .u64 0) (v := .int .u64 0) ?_) | (with_reducible refine Blk.drew ?_) | (with_reducible refine Blk.new' _ _ _ _ (by first | (with_reducible rfl) | (simp; done))) | (with_reducible refine Blk.alloc ?_ _) | (with_reducible refine Blk.after ?_ ‹_›) | (with_reducible refine Blk.far ?_ (by first | (simp; done) | (simp; omega)) _))), (by repeat (first | (with_reducible exact Below.refl _ _) | (with_reducible assumption) | (with_reducible refine bl_alloc ?_ _) | (with_reducible refine bl_drew ?_) | (with_reducible refine bl_drewN ?_ _) | (with_reducible refine bl_set ?_ (by first | (simp; done) | (simp; omega)) _) | (with_reducible refine bl_trans ?_ ‹_›)))⟩
          case round =>
            have hb2s := hbR.lt
            clear r0 r1 rz0 rz1 hbR hbel
            obtain ⟨k, hk, rfl, hv, hb4, hbR, hbel⟩ := hrel
            by_cases hlt : k < s.size
            · have dk : decide (k < s.size) = true := decide_eq_true hlt
              obtain ⟨q1, q2⟩ := val_step hv
              have Q1 := Lib.hid q1
              have Q2 := Lib.hid q2
              have hdig := HD.out k hlt
              have hdd : tD s k < 10 := tD_lt HD.out k
              have hbd : (s[k].toNat : Nat) = 48 + tD s k := by unfold tD; rw [tB_at hlt] at hdig ⊢; omega
              have hsub : IntKind.u64.wrap (((s[k].toNat : Nat) : Int) - 48) = (tD s k : Int) := by rw [hbd]; show (((48 + tD s k : Nat) : Int) - 48) % 18446744073709551616 = _; omega
              have hcv : IntKind.u64.wrap ((s[k].toNat : Nat) : Int) = ((s[k].toNat : Nat) : Int) := by rw [hbd]; show (((48 + tD s k : Nat) : Int)) % 18446744073709551616 = _; omega
              have hmono := valN_mono (tD s) (k + 1) (s.size - (k + 1))
              rw [show k + 1 + (s.size - (k + 1)) = s.size from by omega] at hmono
              have HM := Lib.hid hmono
              have HS := Lib.hid hsub
              have HV := Lib.hid hcv
              clear q1 q2 hdig hmono hsub hbd hcv
              obtain ⟨v0, v1, _⟩ := blk_two hb4
              have hlR := hbR.lt
              have hl4 := hb4.lt
              have hbt := timesN_lt2 (valN (tD s) k) 10
              go_upto_region 14 with (fail)
              go_cut [7, 8] (fun s6 s7 wc => ∃ g6 : Nat, s6 = .pointer (some ⟨g6, 0, none⟩) ∧ s7 = .bool (timesF (valN (tD s) k) 10) ∧ Blk wc g6 56 #[.int .u64 (hi (timesN (valN (tD s) k) 10)), .int .u64 (lo (timesN (valN (tD s) k) 10))] ∧ Blk wc w1.heap.size 56 #[.int .u64 (hi (valN (tD s) k)), .int .u64 (lo (valN (tD s) k))] ∧ Blk wc w.heap.size 56 #[.int .u64 0, .int .u64 0] ∧ Below w.heap.size w wc)
              case first =>
                go_wp2_with fail
                refine (reftimes_k (valN (tD s) k) _ hv).mono ?_
                rintro e w2 ⟨rfl, hb5⟩
                go_wp2_with fail
                go_meet
                case rel => exact ⟨_, rfl, rfl, (by repeat (first | (with_reducible assumption) | (with_reducible refine blk_fill (u := .int .u64 0) (v := .int .u64 0) ?_) | (with_reducible refine Blk.drew ?_) | (with_reducible refine Blk.new' _ _ _ _ (by first | (with_reducible rfl) | (simp; done))) | (with_reducible refine Blk.alloc ?_ _) | (with_reducible refine Blk.after ?_ ‹_›) | (with_reducible refine Blk.far ?_ (by first | (simp; done) | (simp; omega)) _))), (by repeat (first | (with_reducible assumption) | (with_reducible refine blk_fill (u := .int .u64 0) (v := .int .u64 0) ?_) | (with_reducible refine Blk.drew ?_) | (with_reducible refine Blk.new' _ _ _ _ (by first | (with_reducible rfl) | (simp; done))) | (with_reducible refine Blk.alloc ?_ _) | (with_reducible refine Blk.after ?_ ‹_›) | (with_reducible refine Blk.far ?_ (by first | (simp; done) | (simp; omega)) _))), (by repeat (first | (with_reducible assumption) | (with_reducible refine blk_fill (u := .int .u64 0) (v := .int .u64 0) ?_) | (with_reducible refine Blk.drew ?_) | (with_reducible refine Blk.new' _ _ _ _ (by first | (with_reducible rfl) | (simp; done))) | (with_reducible refine Blk.alloc ?_ _) | (with_reducible refine Blk.after ?_ ‹_›) | (with_reducible refine Blk.far ?_ (by first | (simp; done) | (simp; omega)) _))), (by repeat (first | (with_reducible exact Below.refl _ _) | (with_reducible assumption) | (with_reducible refine bl_alloc ?_ _) | (with_reducible refine bl_drew ?_) | (with_reducible refine bl_drewN ?_ _) | (with_reducible refine bl_set ?_ (by first | (simp; done) | (simp; omega)) _) | (with_reducible refine bl_trans ?_ ‹_›)))⟩
              case rest =>
                clear hb4 hbR hbel v0 v1 hlR hl4
                obtain ⟨g6, rfl, rfl, hb6, hb4, hbR, hbel⟩ := hcut
                have hlR := hbR.lt
                have hl4 := hb4.lt
                have hl6 := hb6.lt
                generalize hfo : timesF (valN (tD s) k) 10 = fo at *
                generalize hbo : timesN (valN (tD s) k) 10 = bo at *
                have hsub := HS.out
                have hcv := HV.out
                go_upto_region 15 with (fail)
                go_cut [9, 10] (fun s8 s9 wd => ∃ g8 : Nat, s8 = .pointer (some ⟨g8, 0, none⟩) ∧ s9 = .bool (addF bo (tD s k)) ∧ Blk wd g8 56 #[.int .u64 (hi (addN bo (tD s k))), .int .u64 (lo (addN bo (tD s k)))] ∧ Blk wd w1.heap.size 56 #[.int .u64 (hi (valN (tD s) k)), .int .u64 (lo (valN (tD s) k))] ∧ Blk wd w.heap.size 56 #[.int .u64 0, .int .u64 0] ∧ Below w.heap.size w wd)
                case first =>
                  go_region_held3 (fun w' => (w'.cell? ⟨g6, 0, none⟩ = some (.int .u64 (hi bo)) ∧ w'.cell? ⟨g6, 1, none⟩ = some (.int .u64 (lo bo)) ∧ Blk w' g6 56 #[.int .u64 (hi bo), .int .u64 (lo bo)]) ∧ Blk w' w1.heap.size 56 #[.int .u64 (hi (valN (tD s) k)), .int .u64 (lo (valN (tD s) k))] ∧ Blk w' w.heap.size 56 #[.int .u64 0, .int .u64 0] ∧ Below w.heap.size w w')
                    (exact ⟨blk_two (by repeat (first | (with_reducible assumption) | (with_reducible refine blk_fill (u := .int .u64 0) (v := .int .u64 0) ?_) | (with_reducible refine Blk.drew ?_) | (with_reducible refine Blk.new' _ _ _ _ (by first | (with_reducible rfl) | (simp; done))) | (with_reducible refine Blk.alloc ?_ _) | (with_reducible refine Blk.after ?_ ‹_›) | (with_reducible refine Blk.far ?_ (by first | (simp; done) | (simp; omega)) _))), (by repeat (first | (with_reducible assumption) | (with_reducible refine blk_fill (u := .int .u64 0) (v := .int .u64 0) ?_) | (with_reducible refine Blk.drew ?_) | (with_reducible refine Blk.new' _ _ _ _ (by first | (with_reducible rfl) | (simp; done))) | (with_reducible refine Blk.alloc ?_ _) | (with_reducible refine Blk.after ?_ ‹_›) | (with_reducible refine Blk.far ?_ (by first | (simp; done) | (simp; omega)) _))), (by repeat (first | (with_reducible assumption) | (with_reducible refine blk_fill (u := .int .u64 0) (v := .int .u64 0) ?_) | (with_reducible refine Blk.drew ?_) | (with_reducible refine Blk.new' _ _ _ _ (by first | (with_reducible rfl) | (simp; done))) | (with_reducible refine Blk.alloc ?_ _) | (with_reducible refine Blk.after ?_ ‹_›) | (with_reducible refine Blk.far ?_ (by first | (simp; done) | (simp; omega)) _))), (by repeat (first | (with_reducible exact Below.refl _ _) | (with_reducible assumption) | (with_reducible refine bl_alloc ?_ _) | (with_reducible refine bl_drew ?_) | (with_reducible refine bl_drewN ?_ _) | (with_reducible refine bl_set ?_ (by first | (simp; done) | (simp; omega)) _) | (with_reducible refine bl_trans ?_ ‹_›)))⟩)
                    (first
                    | (go_at_call 54; refine (refadd_k bo (tD s k) _ (by omega) (by omega)).mono ?_; rintro e w4 ⟨rfl, hb4⟩; obtain ⟨hc4, hf4⟩ := bcell hb4; have hz4 := hb4.size; (try simp only [size_alloc', size_setCell', size_drew'] at hz4); (try have hs4 : wc.heap.size < w4.heap.size := by omega)))
                  all_goals
                    go_wp2_with fail
                    go_meet
                    case rel => exact ⟨_, rfl, rfl, (by repeat (first | (with_reducible assumption) | (with_reducible refine blk_fill (u := .int .u64 0) (v := .int .u64 0) ?_) | (with_reducible refine Blk.drew ?_) | (with_reducible refine Blk.new' _ _ _ _ (by first | (with_reducible rfl) | (simp; done))) | (with_reducible refine Blk.alloc ?_ _) | (with_reducible refine Blk.after ?_ ‹_›) | (with_reducible refine Blk.far ?_ (by first | (simp; done) | (simp; omega)) _))), (by repeat (first | (with_reducible assumption) | (with_reducible refine blk_fill (u := .int .u64 0) (v := .int .u64 0) ?_) | (with_reducible refine Blk.drew ?_) | (with_reducible refine Blk.new' _ _ _ _ (by first | (with_reducible rfl) | (simp; done))) | (with_reducible refine Blk.alloc ?_ _) | (with_reducible refine Blk.after ?_ ‹_›) | (with_reducible refine Blk.far ?_ (by first | (simp; done) | (simp; omega)) _))), (by repeat (first | (with_reducible assumption) | (with_reducible refine blk_fill (u := .int .u64 0) (v := .int .u64 0) ?_) | (with_reducible refine Blk.drew ?_) | (with_reducible refine Blk.new' _ _ _ _ (by first | (with_reducible rfl) | (simp; done))) | (with_reducible refine Blk.alloc ?_ _) | (with_reducible refine Blk.after ?_ ‹_›) | (with_reducible refine Blk.far ?_ (by first | (simp; done) | (simp; omega)) _))), (by repeat (first | (with_reducible exact Below.refl _ _) | (with_reducible assumption) | (with_reducible refine bl_alloc ?_ _) | (with_reducible refine bl_drew ?_) | (with_reducible refine bl_drewN ?_ _) | (with_reducible refine bl_set ?_ (by first | (simp; done) | (simp; omega)) _) | (with_reducible refine bl_trans ?_ ‹_›)))⟩
                case rest =>
                  clear hb6 hb4 hbR hbel hlR hl4 hl6 hsub hcv
                  obtain ⟨g8, rfl, rfl, hb8, hb4, hbR, hbel⟩ := hcut
                  have hlR := hbR.lt
                  have hl4 := hb4.lt
                  have hl8 := hb8.lt
                  obtain ⟨r0, r1, _⟩ := blk_two hbR
                  have rz0 := hbR.frozen 0
                  have rz1 := hbR.frozen 1
                  obtain ⟨n0, n1, _⟩ := blk_two hb8
                  obtain ⟨o0, o1, _⟩ := blk_two hb4
                  have oz0 := hb4.frozen 0
                  have oz1 := hb4.frozen 1
                  have hw1 : w.heap.size < w1.heap.size := hb2s
                  generalize addF bo (tD s k) = f8 at *
                  by_cases hok : valN (tD s) (k + 1) < 340282366920938463463374607431768211456
                  · have e1 := Q1.out
                    rw [decide_eq_true hok] at e1
                    obtain ⟨rfl, rfl⟩ := Bool.and_eq_true_iff.1 e1
                    have e2 := Q2.out hok
                    rw [e2] at hb8 n0 n1
                    clear e1 e2
                    go_wp2_with fail
                    go_roundw
                    case rel => exact ⟨k + 1, by omega, by go_num, hok, blk_fill hb4, (by repeat (first | (with_reducible assumption) | (with_reducible refine blk_fill (u := .int .u64 0) (v := .int .u64 0) ?_) | (with_reducible refine Blk.drew ?_) | (with_reducible refine Blk.new' _ _ _ _ (by first | (with_reducible rfl) | (simp; done))) | (with_reducible refine Blk.alloc ?_ _) | (with_reducible refine Blk.after ?_ ‹_›) | (with_reducible refine Blk.far ?_ (by first | (simp; done) | (simp; omega)) _))), (by repeat (first | (with_reducible exact Below.refl _ _) | (with_reducible assumption) | (with_reducible refine bl_alloc ?_ _) | (with_reducible refine bl_drew ?_) | (with_reducible refine bl_drewN ?_ _) | (with_reducible refine bl_set ?_ (by first | (simp; done) | (simp; omega)) _) | (with_reducible refine bl_trans ?_ ‹_›)))⟩
                    case measure => simp [intOf]; omega
                  · have e1 := Q1.out
                    rw [decide_eq_false hok] at e1
                    have hge : 340282366920938463463374607431768211456 ≤ valN (tD s) s.size := by have := HM.out; omega
                    have HG := Lib.hid hge
                    clear hge hok
                    rcases fo with _ | _ <;> rcases f8 with _ | _
                    case true.true => cases e1
                    all_goals
                      clear e1
                      go_wp2_with fail
                      refine bodyPost_ret (v := .tuple #[.agg #[.int .u64 0, .int .u64 0], .int .i64 11]) (by simp [results, Tryd.results32, go_sem, r0, r1]) rfl ⟨fun h => absurd HG.out (by omega), fun _ => rfl, (by repeat (first | (with_reducible exact Below.refl _ _) | (with_reducible assumption) | (with_reducible refine bl_alloc ?_ _) | (with_reducible refine bl_drew ?_) | (with_reducible refine bl_drewN ?_ _) | (with_reducible refine bl_set ?_ (by first | (simp; done) | (simp; omega)) _) | (with_reducible refine bl_trans ?_ ‹_›)))⟩
            · have dk : decide (k < s.size) = false := decide_eq_false hlt
              obtain rfl : k = s.size := by omega
              have hlR := hbR.lt
              have hl4 := hb4.lt
              obtain ⟨r0, r1, _⟩ := blk_two hbR
              have rz0 := hbR.frozen 0
              have rz1 := hbR.frozen 1
              obtain ⟨n0, n1, _⟩ := blk_two hb4
              generalize hval : valN (tD s) s.size = V at *
              go_wp2_with fail
              refine bodyPost_ret (v := .tuple #[numV V, .int .i64 0]) (by simp [results, Tryd.results32, go_sem, r0, r1]) rfl ⟨fun _ => by rw [hval], fun h => absurd hv (by omega), (by repeat (first | (with_reducible exact Below.refl _ _) | (with_reducible assumption) | (with_reducible refine bl_alloc ?_ _) | (with_reducible refine bl_drew ?_) | (with_reducible refine bl_drewN ?_ _) | (with_reducible refine bl_set ?_ (by first | (simp; done) | (simp; omega)) _) | (with_reducible refine bl_trans ?_ ‹_›)))⟩
end Go.Proofs.YtnhaejbakgjelaaDoor
