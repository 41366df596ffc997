/- BitmapPlays walked. -/
import Derived.Test.YtnhaejbakgjelaaDoorBmT
import Derived.Deep.RegionHeld3
namespace Go.Proofs.YtnhaejbakgjelaaDoor
open Go.RowKit

/-- what Has answers, whatever the bit -/
def hasB (f : Nat → Bool) (n : Nat) (i : Int) : Bool := if inB n i then f i.toNat else false
theorem has_any (g c n : Nat) (f : Nat → Bool) (i : Int) (w : World) (h : MapAt w g c n f) :
    Calls Tryd.prog 13 #[.pointer (some ⟨g, 0, none⟩), .int .i64 i] w fun e w' => e = .returned (.bool (hasB f n i)) ∧ Below w.heap.size w w' := by
  unfold hasB
  by_cases hi : inB n i
  · rw [if_pos hi]
    obtain ⟨I, rfl⟩ := Int.eq_ofNat_of_zero_le hi.1
    rw [Int.toNat_natCast]
    exact (has_yes g c n f I w h (by have := hi.2; omega)).mono fun e w' ⟨a, b⟩ => ⟨a, by rw [← b]; exact bl_drew (Below.refl _ _)⟩
  · rw [if_neg hi]
    exact has_no g c n f i w h hi
theorem rhas_any (g c n : Nat) (f : Nat → Bool) (i : Int) (w : World) (h : RefAt w g c n f) :
    Calls Tryd.prog 23 #[.pointer (some ⟨g, 0, none⟩), .int .i64 i] w fun e w' => e = .returned (.bool (hasB f n i)) ∧ w = w' := by
  unfold hasB
  by_cases hi : inB n i
  · rw [if_pos hi]
    obtain ⟨I, rfl⟩ := Int.eq_ofNat_of_zero_le hi.1
    rw [Int.toNat_natCast]
    exact rhas_yes g c n f I w h (by have := hi.2; omega)
  · rw [if_neg hi]
    exact rhas_no g c n f i w h hi
theorem IsNext.one {f : Nat → Bool} {n a j k : Nat} (h : IsNext f n a j) (h' : IsNext f n a k) : j = k := by
  obtain ⟨q1, q2, q3⟩ := h
  obtain ⟨p1, p2, p3⟩ := h'
  rcases q3 with ⟨q3, q4⟩ | ⟨q3, q4, q5⟩ <;> rcases p3 with ⟨p3, p4⟩ | ⟨p3, p4, p5⟩
  · rcases Nat.lt_trichotomy j k with e | e | e
    · rw [p4 j q3 e] at q2; cases q2
    · exact e
    · rw [q4 k p3 e] at p2; cases p2
  · rw [p4 j q3 q1] at q2; cases q2
  · rw [q4 k p3 p1] at p2; cases p2
  · rcases Nat.lt_trichotomy j k with e | e | e
    · rw [p5 j e] at q2; cases q2
    · exact e
    · rw [q5 k e] at p2; cases p2
theorem next_one {f : Nat → Bool} {n a j k : Nat} {b b' : Bool} (h1 : b = true → IsNext f n a j) (h2 : b = false → j = 0 ∧ ∀ y, y < n → f y = true) (k1 : b' = true → IsNext f n a k) (k2 : b' = false → k = 0 ∧ ∀ y, y < n → f y = true) : k = j ∧ b' = b := by
  cases b <;> cases b'
  · exact ⟨(k2 rfl).1.trans (h2 rfl).1.symm, rfl⟩
  · obtain ⟨q1, q2, _⟩ := k1 rfl; rw [(h2 rfl).2 k q1] at q2; cases q2
  · obtain ⟨q1, q2, _⟩ := h1 rfl; rw [(k2 rfl).2 j q1] at q2; cases q2
  · exact ⟨(k1 rfl).one (h1 rfl), rfl⟩
theorem Acts.get {w : World} {p : Option Addr} {len : Nat} (h : Acts w p len) {i : Nat} (hi : i < len) : ∃ (a : Addr) (K A B : Int), p = some a ∧ ∀ w', Below w.heap.size w w' →
    w'.cell? (a.add (i * 3)) = some (.int .i64 K) ∧ w'.cell? ⟨(a.add (i * 3)).block, (a.add (i * 3)).off + 1, none⟩ = some (.int .i64 A) ∧ w'.cell? ⟨(a.add (i * 3)).block, (a.add (i * 3)).off + 2, none⟩ = some (.int .i64 B) := by
  obtain ⟨a, K, A, B, e, hl, h1, h2, h3⟩ := h i hi
  exact ⟨a, K, A, B, e, fun w' hb => ⟨(hb.cell (by rw [add_block]; exact hl)).trans h1, (hb.cell (by show (a.add (i * 3)).block < _; rw [add_block]; exact hl)).trans h2, (hb.cell (by show (a.add (i * 3)).block < _; rw [add_block]; exact hl)).trans h3⟩⟩
theorem Both.after {w0 w w' : World} {g c rg rc n : Nat} {f : Nat → Bool} (h : Both w0 w g c rg rc n f) (hb : Below w.heap.size w w') : Both w0 w' g c rg rc n f :=
  ⟨h.map.after hb, h.ref.after hb, bl_trans h.below hb, h.g0, h.c0, h.rg0, h.rc0⟩
theorem Both.count {w0 w : World} {g c rg rc n : Nat} {f : Nat → Bool} (h : Both w0 w g c rg rc n f) : Calls Tryd.prog 12 #[.pointer (some ⟨g, 0, none⟩)] w fun e w' => e = .returned (.int .i64 (cnt f 0 n : Nat)) ∧ w = w' :=
  count_c g c n _ f w h.map (cnt_top h.map.top (by omega))

set_option maxRecDepth 100000 in
theorem plays_out (w : World) (p : Option Addr) (len cap : Nat) (n : Int) (hT : Tab w) (hn : n < 0 ∨ 65536 < n) :
    Calls Tryd.prog 6 #[.int .i64 n, .slice p len cap] w (fun e w' => e = .returned (.bool true) ∧ Below w.heap.size w w') := by
  have hn' := hn
  rcases hn with hn | hn
  all_goals
    go_enter Tryd.func6, Tryd.ntmps6
    go_wp2_with fail
    refine (awake_c _ hT).mono ?_
    rintro e w1 ⟨rfl, hb1⟩
    go_wp2_with fail
    refine (new_no n _ hn').mono ?_
    rintro e w2 ⟨rfl, rfl⟩
    go_wp2_with fail
    refine (rnew_no n _ hn').mono ?_
    rintro e w2 ⟨rfl, rfl⟩
    go_wp2_with fail
    go_ret
    exact ⟨rfl, hb1⟩

set_option maxRecDepth 100000 in
set_option maxHeartbeats 4000000 in
theorem plays_in (w : World) (p : Option Addr) (len cap : Nat) (n : Int) (hT : Tab w) (hA : Acts w p len) (hlen : len ≤ 9223372036854775807) (hn0 : 0 ≤ n) (hn1 : n ≤ 65536) :
    Calls Tryd.prog 6 #[.int .i64 n, .slice p len cap] w (fun e w' => e = .returned (.bool true) ∧ Below w.heap.size w w') := by
  obtain ⟨M, rfl⟩ := Int.eq_ofNat_of_zero_le hn0
  by_cases hM : 300 < M
  all_goals
    go_enter Tryd.func6, Tryd.ntmps6
    go_wp2_with fail
    refine (awake_c _ hT).mono ?_
    rintro e w1 ⟨rfl, hb1⟩
    go_wp2_with fail
    obtain ⟨N, hN, hNlt⟩ : ∃ N : Nat, (if 300 < M then 300 else M) = N ∧ N ≤ 300 := ⟨_, rfl, by split <;> omega⟩
    first
    | (rw [if_pos hM] at hN; rw [show (300 : Int) = (N : Int) from by omega])
    | (rw [if_neg hM] at hN; have hN' := hN.symm; subst hN'; clear hN)
    refine (new_c N _ (by omega)).mono ?_
    rintro e w2 ⟨rfl, hm, hb2'⟩
    have hcl : w.heap.size ≤ w1.heap.size := hb1.size
    have hb2 := bl_trans hb1 hb2'
    have hcs := hb2'.size
    clear hb2'
    have hgl : w.heap.size ≤ w1.heap.size + 1 := by omega
    generalize w1.heap.size + 1 = g at *
    generalize w1.heap.size = c at *
    go_wp2_with fail
    refine (rnew_c N _ (by omega)).mono ?_
    rintro e w3 ⟨rfl, hr, hb3'⟩
    have hm3 := hm.after hb3'
    have hb3 := bl_trans hb2 hb3'
    have hrl : w.heap.size ≤ w2.heap.size := hb2.size
    have hrgl : w.heap.size ≤ w2.heap.size + 1 := by omega
    have hB : Both w w3 g c (w2.heap.size + 1) w2.heap.size N (fun _ => false) := ⟨hm3, hr, hb3, hgl, hcl, hrgl, hrl⟩
    clear hb3' hm hr hm3 hb3 hgl hcl hrgl hrl hcs
    generalize w2.heap.size + 1 = rg at *
    generalize w2.heap.size = rc at *
    clear hb1 hb2
    go_wp2_with fail
    go_loopw [5, 9] (fun m i wr => ∃ (k g c : Nat) (f : Nat → Bool), k ≤ 60 ∧ i = .int .i64 k ∧ m = .pointer (some ⟨g, 0, none⟩) ∧ Both w wr g c rg rc N f) (fun _ i _ => 60 - (intOf i).toNat)
    case atStart => exact ⟨0, g, c, _, by omega, rfl, rfl, hB⟩
    case round =>
      clear hB
      obtain ⟨k, g1, c1, f, hk, rfl, rfl, hB⟩ := hrel
      by_cases hgo : k < len ∧ k < 60
      · have dk : decide (k < len) = true := decide_eq_true hgo.1
        have dk2 : decide (k < 60) = true := decide_eq_true hgo.2
        obtain ⟨a, K, A, B, rfl, hcells⟩ := hA.get hgo.1
        obtain ⟨k0, k1, k2⟩ := hcells _ hB.below
        have HC := Lib.hid hcells
        clear hcells
        go_wp2_with fail
        refine (does_c g1 c1 rg rc N f K A B w _ hB).mono ?_
        rintro e w4 ⟨g2, c2, f2, rfl, hB2⟩
        clear k0 k1 k2 hB
        have k1 := (HC.out _ hB2.below).2.1
        go_wp2_with fail
        refine (next_c g2 c2 N f2 A _ hB2.map (hT.after hT.lt hB2.below)).mono ?_
        rintro e w5 ⟨x, b, rfl, hx1, hx2, hb5⟩
        have hB5 := hB2.after hb5
        clear k1 hB2 hb5
        have k1 := (HC.out _ hB5.below).2.1
        go_wp2_with fail
        refine (rnext_c rg rc N f2 A _ hB5.ref).mono ?_
        rintro e w6 ⟨y, b', rfl, hy1, hy2, hb6⟩
        obtain ⟨rfl, rfl⟩ := next_one hx1 hx2 hy1 hy2
        have hB6 := hB5.after hb6
        clear k1 hB5 hb6 hx1 hx2 hy1 hy2
        go_wp2_with fail
        go_region_held3 (fun w' => w'.cell? ⟨(a.add (k * 3)).block, (a.add (k * 3)).off + 1, none⟩ = some (.int .i64 A) ∧ Both w w' g2 c2 rg rc N f2)
          (first | assumption | (with_reducible exact ⟨(HC.out _ hB6.drew.below).2.1, hB6.drew⟩) | (with_reducible exact ⟨(HC.out _ (Both.below (by assumption))).2.1, by assumption⟩))
          (first
          | (go_at_call 12; have hS := ‹_ ∧ Both w _ g2 c2 rg rc N f2›; obtain ⟨_, hbb⟩ := hS; refine (Both.count hbb).mono ?_; rintro e w7 ⟨rfl, rfl⟩)
          | (go_at_call 19; have hS := ‹_ ∧ Both w _ g2 c2 rg rc N f2›; obtain ⟨_, hbb⟩ := hS; refine (rcount_c rg rc N f2 _ hbb.ref).mono ?_; rintro e w7 ⟨rfl, rfl⟩)
          | (go_at_call 13; have hS := ‹_ ∧ Both w _ g2 c2 rg rc N f2›; obtain ⟨_, hbb⟩ := hS; refine (has_any g2 c2 N f2 A _ hbb.map).mono ?_; rintro e w7 ⟨rfl, hb7⟩; have hB7 := hbb.after hb7)
          | (go_at_call 23; have hS := ‹_ ∧ Both w _ g2 c2 rg rc N f2›; obtain ⟨_, hbb⟩ := hS; refine (rhas_any rg rc N f2 A _ hbb.ref).mono ?_; rintro e w7 ⟨rfl, rfl⟩))
        go_wp2_with fail
        go_roundw
        case rel => exact ⟨k + 1, g2, c2, f2, by omega, by go_num, rfl, by assumption⟩
        case measure => simp [intOf]; omega
      · have hstop : (decide (k < len) = false) ∨ (decide (k < len) = true ∧ decide ((k : Int) < 60) = false) := by
          by_cases h1 : k < len
          · exact .inr ⟨decide_eq_true h1, decide_eq_false fun h2 => hgo ⟨h1, by omega⟩⟩
          · exact .inl (decide_eq_false h1)
        clear hgo
        rcases hstop with dk | ⟨dk, dk2⟩
        all_goals
          go_wp2_with fail
          go_loopw [16] (fun i wr => ∃ (t : Nat), t ≤ N ∧ i = .int .i64 t ∧ Both w wr g1 c1 rg rc N f) (fun i _ => N - (intOf i).toNat)
          case atStart => exact ⟨0, by omega, rfl, hB⟩
          case round =>
            clear hB
            obtain ⟨t, ht, rfl, hB⟩ := hrel
            by_cases hlt : t < N
            · have dt : decide (t < N) = true := decide_eq_true hlt
              go_wp2_with fail
              refine (has_yes g1 c1 N f t _ hB.map hlt).mono ?_
              rintro e w5 ⟨rfl, rfl⟩
              have hB5 := hB.drew
              clear hB
              go_wp2_with fail
              refine (rhas_yes rg rc N f t _ hB5.ref hlt).mono ?_
              rintro e w6 ⟨rfl, rfl⟩
              go_wp2_with fail
              go_roundw
              case rel => exact ⟨t + 1, by omega, by go_num, hB5⟩
              case measure => simp [intOf]; omega
            · have dt : decide (t < N) = false := decide_eq_false hlt
              go_wp2_with fail
              refine (size_c g1 c1 N f _ hB.map).mono ?_
              rintro e w5 ⟨rfl, rfl⟩
              go_wp2_with fail
              refine (bytes_c g1 c1 N f _ hB.map).mono ?_
              rintro e w6 ⟨rfl, hb6⟩
              have hB6 := hB.after hb6
              go_wp2_with fail
              refine (rbytes_c rg rc N f _ hB6.ref hB.map.top).mono ?_
              rintro e w7 ⟨rfl, hb7⟩
              have hB7 := hB6.after hb7
              clear hb6 hb7 hB hB6
              go_wp2_with fail
              go_ret
              exact ⟨rfl, hB7.below⟩
theorem plays (w : World) (p : Option Addr) (len cap : Nat) (n : Int) (hT : Tab w) (hA : Acts w p len) (hlen : len ≤ 9223372036854775807) :
    Calls Tryd.prog 6 #[.int .i64 n, .slice p len cap] w (fun e w' => e = .returned (.bool true) ∧ Below w.heap.size w w') := by
  by_cases hn : n < 0 ∨ 65536 < n
  · exact plays_out w p len cap n hT hn
  · exact plays_in w p len cap n hT hA hlen (by omega) (by omega)
end Go.Proofs.YtnhaejbakgjelaaDoor
