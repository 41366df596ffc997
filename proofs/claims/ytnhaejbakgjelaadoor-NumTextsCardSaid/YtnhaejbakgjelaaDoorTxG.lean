/- The walk of NumTexts. -/
import Derived.Test.YtnhaejbakgjelaaDoorAwk
import Derived.Test.YtnhaejbakgjelaaDoorTxE
import Derived.Test.YtnhaejbakgjelaaDoorTxF
namespace Go.Proofs.YtnhaejbakgjelaaDoor
open Go.RowKit

theorem print_k (a : Nat) (w : World) (ha : a < 340282366920938463463374607431768211456) :
    Calls Tryd.prog 30 #[numV a] w fun e w' => e = .returned (.string (strOfNums (decI a))) ∧ Below w.heap.size w w' := by
  have := print_c (hi a) (lo a) w (hi_nn _) (hi_lt _) (lo_nn _) (lo_lt _)
  rw [num_hi_lo ha] at this
  exact this
/-- both readings of any text, and what they say -/
theorem parse_any (s : ByteArray) (hs : s.size ≤ 1000) : ∃ (C : Nat) (E : Int), C < 340282366920938463463374607431768211456 ∧ (E = 0 → strOfNums (decI C) = s) ∧
    (∀ w, Calls Tryd.prog 31 #[.string s] w fun e w' => e = .returned (.tuple #[numV C, .int .i64 E]) ∧ Below w.heap.size w w') ∧
    (∀ w, Calls Tryd.prog 32 #[.string s] w fun e w' => e = .returned (.tuple #[numV C, .int .i64 E]) ∧ Below w.heap.size w w') := by
  by_cases h : formed s
  · rcases Nat.lt_or_ge (valN (tD s) s.size) 340282366920938463463374607431768211456 with k | k
    · exact ⟨_, 0, k, fun _ => text_back h k, fun w => (parse_f s w hs h).mono fun e w' ⟨a, _, b⟩ => ⟨a k, b⟩, fun w => (rparse_f s w hs h).mono fun e w' ⟨a, _, b⟩ => ⟨a k, b⟩⟩
    · refine ⟨0, 11, by omega, fun e => absurd e (by decide), ?_, ?_⟩
      · rw [numV_zero]; exact fun w => (parse_f s w hs h).mono fun e w' ⟨_, a, b⟩ => ⟨a k, b⟩
      · rw [numV_zero]; exact fun w => (rparse_f s w hs h).mono fun e w' ⟨_, a, b⟩ => ⟨a k, b⟩
  · exact ⟨0, 4, by omega, fun e => absurd e (by decide), fun w => parse_no s w hs h, fun w => rparse_no s w hs h⟩
theorem parse_own (a : Nat) (w : World) (ha : a < 340282366920938463463374607431768211456) :
    Calls Tryd.prog 31 #[.string (strOfNums (decI a))] w fun e w' => e = .returned (.tuple #[numV a, .int .i64 0]) ∧ Below w.heap.size w w' := by
  obtain ⟨h1, h2, h3⟩ := text_make ha
  have := parse_f (strOfNums (decI a)) w (by omega) h1
  refine this.mono fun e w' ⟨k, _, b⟩ => ⟨?_, b⟩
  rw [h3] at k
  exact k ha
set_option maxRecDepth 100000 in
set_option maxHeartbeats 3200000 in
theorem numTexts_walk (a : Nat) (s : ByteArray) (w : World) (ha : a < 340282366920938463463374607431768211456) :
    Calls Tryd.prog 8 #[numV a, .string s] w fun e w' => e = .returned (.bool true) ∧ Below w.heap.size w w' := by
  by_cases hs : 1000 < s.size
  · have d : decide (1000 < (s.size : Int)) = true := decide_eq_true (by omega)
    go_enter Tryd.func8, Tryd.ntmps8
    go_wp2_with fail
    refine (awake_c _).mono ?_
    rintro e w1 ⟨rfl, hb1⟩
    go_wp2_with fail
    go_ret
    exact ⟨rfl, (by repeat (first | (with_reducible exact Below.refl _ _) | (with_reducible assumption) | (with_reducible refine bl_alloc ?_ _) | (with_reducible refine bl_drew ?_) | (with_reducible refine bl_drewN ?_ _) | (with_reducible refine bl_set ?_ (by first | (simp; done) | (simp; omega)) _) | (with_reducible refine bl_trans ?_ ‹_›)))⟩
  · have d : decide (1000 < (s.size : Int)) = false := decide_eq_false (by omega)
    obtain ⟨C, E, hC, hE, hp, hr⟩ := parse_any s (by omega)
    have HP := Lib.hid hp
    have HR := Lib.hid hr
    have HE := Lib.hid hE
    clear hp hr hE
    have hcase : (0 < hi a ∧ (hi a == 0) = false) ∨ (¬ 0 < hi a ∧ (hi a == 0) = true) := by
      have := hi_nn a
      by_cases k : 0 < hi a
      · exact .inl ⟨k, by simp; omega⟩
      · exact .inr ⟨k, by simp; omega⟩
    go_enter Tryd.func8, Tryd.ntmps8
    go_wp2_with fail
    refine (awake_c _).mono ?_
    rintro e w1 ⟨rfl, hb1⟩
    have bA : Blk w1 w.heap.size 56 #[.int .u64 (hi a), .int .u64 (lo a)] := (by repeat (first | (with_reducible assumption) | (with_reducible refine blk_fill (u := .int .u64 0) (v := .int .u64 0) ?_) | (with_reducible refine Blk.drew ?_) | (with_reducible refine Blk.new' _ _ _ _ (by first | (with_reducible rfl) | (simp; done))) | (with_reducible refine Blk.alloc ?_ _) | (with_reducible refine Blk.after ?_ ‹_›) | (with_reducible refine Blk.far ?_ (by first | (simp; done) | (simp; omega)) _)))
    have hbel1 : Below w.heap.size w w1 := (by repeat (first | (with_reducible exact Below.refl _ _) | (with_reducible assumption) | (with_reducible refine bl_alloc ?_ _) | (with_reducible refine bl_drew ?_) | (with_reducible refine bl_drewN ?_ _) | (with_reducible refine bl_set ?_ (by first | (simp; done) | (simp; omega)) _) | (with_reducible refine bl_trans ?_ ‹_›)))
    obtain ⟨a0, a1, _⟩ := blk_two bA
    clear hb1
    go_wp2_with fail
    refine (print_k a _ ha).mono ?_
    rintro e w2 ⟨rfl, hb2⟩
    have bA2 := bA.after hb2
    have hbel2 := bl_trans hbel1 hb2
    have HO := Lib.hid (fun w => parse_own a w ha)
    have HRP := Lib.hid (fun w => refprint_c a w ha)
    clear bA hbel1 a0 a1 hb2
    generalize strOfNums (decI a) = T at *
    go_wp2_with fail
    refine (HO.out _).mono ?_
    rintro e w3 ⟨rfl, hb3⟩
    have bA3 := bA2.after hb3
    have hbel3 := bl_trans hbel2 hb3
    clear bA2 hbel2 hb3
    go_wp2_with fail
    refine (HP.out _).mono ?_
    rintro e w4 ⟨rfl, hb4⟩
    have hlA := bA3.lt
    have bA4 : Blk w4 w.heap.size 56 #[.int .u64 (hi a), .int .u64 (lo a)] := (by repeat (first | (with_reducible assumption) | (with_reducible refine blk_fill (u := .int .u64 0) (v := .int .u64 0) ?_) | (with_reducible refine Blk.drew ?_) | (with_reducible refine Blk.new' _ _ _ _ (by first | (with_reducible rfl) | (simp; done))) | (with_reducible refine Blk.alloc ?_ _) | (with_reducible refine Blk.after ?_ ‹_›) | (with_reducible refine Blk.far ?_ (by first | (simp; done) | (simp; omega)) _)))
    have bB4 : Blk w4 w3.heap.size 56 #[.int .u64 (hi a), .int .u64 (lo a)] := (by repeat (first | (with_reducible assumption) | (with_reducible refine blk_fill (u := .int .u64 0) (v := .int .u64 0) ?_) | (with_reducible refine Blk.drew ?_) | (with_reducible refine Blk.new' _ _ _ _ (by first | (with_reducible rfl) | (simp; done))) | (with_reducible refine Blk.alloc ?_ _) | (with_reducible refine Blk.after ?_ ‹_›) | (with_reducible refine Blk.far ?_ (by first | (simp; done) | (simp; omega)) _)))
    have hbel4 : Below w.heap.size w w4 := bl_trans (bl_alloc hbel3 _) hb4
    clear bA3 hbel3 hb4
    generalize w3.heap.size = gb at *
    go_wp2_with fail
    refine (HR.out _).mono ?_
    rintro e w5 ⟨rfl, hb5⟩
    have hlB := bB4.lt
    have bA5 : Blk w5 w.heap.size 56 #[.int .u64 (hi a), .int .u64 (lo a)] := (by repeat (first | (with_reducible assumption) | (with_reducible refine blk_fill (u := .int .u64 0) (v := .int .u64 0) ?_) | (with_reducible refine Blk.drew ?_) | (with_reducible refine Blk.new' _ _ _ _ (by first | (with_reducible rfl) | (simp; done))) | (with_reducible refine Blk.alloc ?_ _) | (with_reducible refine Blk.after ?_ ‹_›) | (with_reducible refine Blk.far ?_ (by first | (simp; done) | (simp; omega)) _)))
    have bB5 : Blk w5 gb 56 #[.int .u64 (hi a), .int .u64 (lo a)] := (by repeat (first | (with_reducible assumption) | (with_reducible refine blk_fill (u := .int .u64 0) (v := .int .u64 0) ?_) | (with_reducible refine Blk.drew ?_) | (with_reducible refine Blk.new' _ _ _ _ (by first | (with_reducible rfl) | (simp; done))) | (with_reducible refine Blk.alloc ?_ _) | (with_reducible refine Blk.after ?_ ‹_›) | (with_reducible refine Blk.far ?_ (by first | (simp; done) | (simp; omega)) _)))
    have bC5 : Blk w5 w4.heap.size 56 #[.int .u64 (hi C), .int .u64 (lo C)] := (by repeat (first | (with_reducible assumption) | (with_reducible refine blk_fill (u := .int .u64 0) (v := .int .u64 0) ?_) | (with_reducible refine Blk.drew ?_) | (with_reducible refine Blk.new' _ _ _ _ (by first | (with_reducible rfl) | (simp; done))) | (with_reducible refine Blk.alloc ?_ _) | (with_reducible refine Blk.after ?_ ‹_›) | (with_reducible refine Blk.far ?_ (by first | (simp; done) | (simp; omega)) _)))
    have hbel5 : Below w.heap.size w w5 := bl_trans (bl_alloc hbel4 _) hb5
    clear bA4 bB4 hbel4 hb5
    generalize w4.heap.size = gc at *
    have bA6 : Blk (w5.alloc (.cells #[.int .u64 (hi C), .int .u64 (lo C)] 56)) w.heap.size 56 #[.int .u64 (hi a), .int .u64 (lo a)] := bA5.alloc _
    obtain ⟨a0, a1, _⟩ := blk_two bA6
    go_wp2_with fail
    have hsm := fun w => small_c (hi a) (lo a) w (hi_nn _) (hi_lt _) (lo_nn _) (lo_lt _)
    have hsm2 : ∃ (n : Int) (b : Bool), n = (if b then lo a else 0) ∧ (hi a == 0) = b ∧ ∀ w, Calls Tryd.prog 33 #[.agg #[.int .u64 (hi a), .int .u64 (lo a)]] w fun e w' => e = .returned (.tuple #[.int .u64 n, .bool b]) ∧ Below w.heap.size w w' := by
      rcases hcase with ⟨p1, p2⟩ | ⟨p1, p2⟩
      · refine ⟨0, false, rfl, p2, fun w => ?_⟩
        have := hsm w
        rw [if_pos p1, decide_eq_false (fun k => k p1)] at this
        exact this
      · have p1' : ¬ 0 < hi a := by omega
        refine ⟨lo a, true, rfl, p2, fun w => ?_⟩
        have := hsm w
        rw [if_neg p1', decide_eq_true p1'] at this
        exact this
    obtain ⟨n, b, hn, p2, hsm3⟩ := hsm2
    have HSM := Lib.hid hsm3
    clear hsm hsm3 hcase
    rcases b with _ | _
    all_goals
      simp at hn
      subst hn
      refine (HSM.out _).mono ?_
      rintro e w6 ⟨rfl, hb6⟩
      have hlC := bC5.lt
      have bA : Blk w6 w.heap.size 56 #[.int .u64 (hi a), .int .u64 (lo a)] := (by repeat (first | (with_reducible assumption) | (with_reducible refine blk_fill (u := .int .u64 0) (v := .int .u64 0) ?_) | (with_reducible refine Blk.drew ?_) | (with_reducible refine Blk.new' _ _ _ _ (by first | (with_reducible rfl) | (simp; done))) | (with_reducible refine Blk.alloc ?_ _) | (with_reducible refine Blk.after ?_ ‹_›) | (with_reducible refine Blk.far ?_ (by first | (simp; done) | (simp; omega)) _)))
      have bB : Blk w6 gb 56 #[.int .u64 (hi a), .int .u64 (lo a)] := (by repeat (first | (with_reducible assumption) | (with_reducible refine blk_fill (u := .int .u64 0) (v := .int .u64 0) ?_) | (with_reducible refine Blk.drew ?_) | (with_reducible refine Blk.new' _ _ _ _ (by first | (with_reducible rfl) | (simp; done))) | (with_reducible refine Blk.alloc ?_ _) | (with_reducible refine Blk.after ?_ ‹_›) | (with_reducible refine Blk.far ?_ (by first | (simp; done) | (simp; omega)) _)))
      have bC : Blk w6 gc 56 #[.int .u64 (hi C), .int .u64 (lo C)] := (by repeat (first | (with_reducible assumption) | (with_reducible refine blk_fill (u := .int .u64 0) (v := .int .u64 0) ?_) | (with_reducible refine Blk.drew ?_) | (with_reducible refine Blk.new' _ _ _ _ (by first | (with_reducible rfl) | (simp; done))) | (with_reducible refine Blk.alloc ?_ _) | (with_reducible refine Blk.after ?_ ‹_›) | (with_reducible refine Blk.far ?_ (by first | (simp; done) | (simp; omega)) _)))
      have bD : Blk w6 w5.heap.size 56 #[.int .u64 (hi C), .int .u64 (lo C)] := (by repeat (first | (with_reducible assumption) | (with_reducible refine blk_fill (u := .int .u64 0) (v := .int .u64 0) ?_) | (with_reducible refine Blk.drew ?_) | (with_reducible refine Blk.new' _ _ _ _ (by first | (with_reducible rfl) | (simp; done))) | (with_reducible refine Blk.alloc ?_ _) | (with_reducible refine Blk.after ?_ ‹_›) | (with_reducible refine Blk.far ?_ (by first | (simp; done) | (simp; omega)) _)))
      have hbel : Below w.heap.size w w6 := bl_trans (bl_alloc hbel5 _) hb6
      clear bA5 bB5 bC5 hbel5 hb6 bA6 a0 a1
      generalize w5.heap.size = gd at *
      obtain ⟨a0, a1, _⟩ := blk_two bA
      go_wp2_with fail
      refine (HRP.out _).mono ?_
      rintro e w7 ⟨rfl, hb7⟩
      have bA7 := bA.after hb7
      have bB7 := bB.after hb7
      have bC7 := bC.after hb7
      have bD7 := bD.after hb7
      have hbel7 := bl_trans hbel hb7
      clear a0 a1 hb7
      obtain ⟨a0, a1, _⟩ := blk_two bA7
      obtain ⟨b0, b1, _⟩ := blk_two bB7
      obtain ⟨c0, c1, _⟩ := blk_two bC7
      obtain ⟨d0, d1, _⟩ := blk_two bD7
      by_cases e0 : E = 0
      · have hsT := HE.out e0
        subst e0
        go_wp2_with fail
        refine (print_k C _ hC).mono ?_
        rw [hsT]
        rintro e w8 ⟨rfl, hb8⟩
        go_wp2_with fail
        go_ret
        exact ⟨rfl, bl_trans hbel7 hb8⟩
      · have q1 : (E == 0) = false := by simpa using e0
        have q2 : (E != 0) = true := by simpa using e0
        go_wp2_with fail
        go_ret
        exact ⟨rfl, hbel7⟩
end Go.Proofs.YtnhaejbakgjelaaDoor
