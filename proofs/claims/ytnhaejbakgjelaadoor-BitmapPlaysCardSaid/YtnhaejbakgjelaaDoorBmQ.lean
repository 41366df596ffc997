/- The walk of the reference's OfBytes. -/
import Derived.Test.YtnhaejbakgjelaaDoorBmZ
import Derived.Test.YtnhaejbakgjelaaDoorOfP
import Derived.Deep.Cut
namespace Go.Proofs.YtnhaejbakgjelaaDoor
open Go.RowKit

theorem rof_short (s : ByteArray) (w : World) (h4 : s.size < 4) :
    Calls Tryd.prog 17 #[.string s] w fun e w' => e = .returned (.tuple #[.pointer none, .int .i64 4]) ∧ Below w.heap.size w w' := by
  go_enter Tryd.func17, Tryd.ntmps17
  go_wp2_with fail
  go_ret2
  exact ⟨rfl, Below.refl _ _⟩
set_option maxRecDepth 100000 in
set_option maxHeartbeats 1000000 in
theorem rof_great (s : ByteArray) (n : Nat) (w : World) (hs : s.size ≤ 9000) (h4 : 4 ≤ s.size) (hn : 65536 < n) (hnl : n < 4294967296) (HSZ : Hid (wrap64 (wrap64 (wrap64 (wrap64 (wrap64 ((s[0]'(by omega)).toNat : Int) * 16777216) + wrap64 (wrap64 ((s[1]'(by omega)).toNat : Int) * 65536)) + wrap64 (wrap64 ((s[2]'(by omega)).toNat : Int) * 256)) + wrap64 ((s[3]'(by omega)).toNat : Int)) = (n : Int))) :
    Calls Tryd.prog 17 #[.string s] w fun e w' => e = .returned (.tuple #[.pointer none, .int .i64 4]) ∧ Below w.heap.size w w' := by
  have q0 : (0 : Int) < (s.size : Int) := by omega
  have q1 : (1 : Int) < (s.size : Int) := by omega
  have q2 : (2 : Int) < (s.size : Int) := by omega
  have q3 : (3 : Int) < (s.size : Int) := by omega
  have p0 : 0 < s.size := by omega
  have p1 : 1 < s.size := by omega
  have p2 : 2 < s.size := by omega
  have p3 : 3 < s.size := by omega
  have d4 : decide ((s.size : Int) < 4) = false := decide_eq_false (by omega)
  have d5 : decide (65536 < (n : Int)) = true := decide_eq_true (by omega)
  go_enter Tryd.func17, Tryd.ntmps17
  go_wp2_with fail
  go_quiet (fail)
  simp only [wrap_twice, HSZ.out]
  generalize wrap64 (wrap64 (wrap64 (wrap64 ((s[0].toNat : Nat) : Int) * 16777216) + wrap64 (wrap64 ((s[1].toNat : Nat) : Int) * 65536)) + wrap64 (wrap64 ((s[2].toNat : Nat) : Int) * 256)) = U3
  generalize wrap64 (wrap64 (wrap64 ((s[0].toNat : Nat) : Int) * 16777216) + wrap64 (wrap64 ((s[1].toNat : Nat) : Int) * 65536)) = U2
  generalize wrap64 (wrap64 ((s[0].toNat : Nat) : Int) * 16777216) = U4
  generalize wrap64 (wrap64 ((s[1].toNat : Nat) : Int) * 65536) = U5
  generalize wrap64 (wrap64 ((s[2].toNat : Nat) : Int) * 256) = U6
  generalize wrap64 ((s[0].toNat : Nat) : Int) = U7
  generalize wrap64 ((s[1].toNat : Nat) : Int) = U8
  generalize wrap64 ((s[2].toNat : Nat) : Int) = U9
  generalize wrap64 ((s[3].toNat : Nat) : Int) = U10
  clear HSZ
  go_wp2_with fail
  go_ret2
  exact ⟨rfl, bl_drewN (Below.refl _ _) _⟩
set_option maxRecDepth 100000 in
set_option maxHeartbeats 1000000 in
theorem rof_other (s : ByteArray) (n : Nat) (w : World) (hs : s.size ≤ 9000) (h4 : 4 ≤ s.size) (hn : n ≤ 65536) (hc : s.size ≠ 4 + (n + 7) / 8) (HSZ : Hid (wrap64 (wrap64 (wrap64 (wrap64 (wrap64 ((s[0]'(by omega)).toNat : Int) * 16777216) + wrap64 (wrap64 ((s[1]'(by omega)).toNat : Int) * 65536)) + wrap64 (wrap64 ((s[2]'(by omega)).toNat : Int) * 256)) + wrap64 ((s[3]'(by omega)).toNat : Int)) = (n : Int))) :
    Calls Tryd.prog 17 #[.string s] w fun e w' => e = .returned (.tuple #[.pointer none, .int .i64 4]) ∧ Below w.heap.size w w' := by
  have q0 : (0 : Int) < (s.size : Int) := by omega
  have q1 : (1 : Int) < (s.size : Int) := by omega
  have q2 : (2 : Int) < (s.size : Int) := by omega
  have q3 : (3 : Int) < (s.size : Int) := by omega
  have p0 : 0 < s.size := by omega
  have p1 : 1 < s.size := by omega
  have p2 : 2 < s.size := by omega
  have p3 : 3 < s.size := by omega
  have d4 : decide ((s.size : Int) < 4) = false := decide_eq_false (by omega)
  have d5 : decide (65536 < (n : Int)) = false := decide_eq_false (by omega)
  have dn : ((s.size : Int) - 4 != ((n : Int) + 7) / 8) = true := by simp; omega
  clear hc
  go_enter Tryd.func17, Tryd.ntmps17
  go_wp2_with fail
  go_quiet (fail)
  simp only [wrap_twice, HSZ.out]
  generalize wrap64 (wrap64 (wrap64 (wrap64 ((s[0].toNat : Nat) : Int) * 16777216) + wrap64 (wrap64 ((s[1].toNat : Nat) : Int) * 65536)) + wrap64 (wrap64 ((s[2].toNat : Nat) : Int) * 256)) = U3
  generalize wrap64 (wrap64 (wrap64 ((s[0].toNat : Nat) : Int) * 16777216) + wrap64 (wrap64 ((s[1].toNat : Nat) : Int) * 65536)) = U2
  generalize wrap64 (wrap64 ((s[0].toNat : Nat) : Int) * 16777216) = U4
  generalize wrap64 (wrap64 ((s[1].toNat : Nat) : Int) * 65536) = U5
  generalize wrap64 (wrap64 ((s[2].toNat : Nat) : Int) * 256) = U6
  generalize wrap64 ((s[0].toNat : Nat) : Int) = U7
  generalize wrap64 ((s[1].toNat : Nat) : Int) = U8
  generalize wrap64 ((s[2].toNat : Nat) : Int) = U9
  generalize wrap64 ((s[3].toNat : Nat) : Int) = U10
  clear HSZ
  go_wp2_with fail
  go_ret2
  exact ⟨rfl, bl_drewN (Below.refl _ _) _⟩
/-- what the reference's OfBytes answers -/
def ROfd (s : ByteArray) (w0 : World) (e : Ending) (w : World) : Prop :=
  (okS s → ∃ g c, e = .returned (.tuple #[.pointer (some ⟨g, 0, none⟩), .int .i64 0]) ∧ RefAt w g c (sizeS s) (bitS s) ∧ w0.heap.size ≤ g ∧ w0.heap.size ≤ c) ∧ (¬ okS s → e = .returned (.tuple #[.pointer none, .int .i64 4])) ∧ Below w0.heap.size w0 w
set_option maxRecDepth 100000 in
set_option maxHeartbeats 1000000 in
theorem rof_core (s : ByteArray) (n : Nat) (w : World) (hs : s.size ≤ 9000) (h4 : 4 ≤ s.size) (hn1 : n ≤ 65536) (hn2 : Hid (s.size = 4 + (n + 7) / 8)) (HSZ : Hid (wrap64 (wrap64 (wrap64 (wrap64 (wrap64 ((s[0]'(by omega)).toNat : Int) * 16777216) + wrap64 (wrap64 ((s[1]'(by omega)).toNat : Int) * 65536)) + wrap64 (wrap64 ((s[2]'(by omega)).toNat : Int) * 256)) + wrap64 ((s[3]'(by omega)).toNat : Int)) = (n : Int))) :
    Calls Tryd.prog 17 #[.string s] w fun e w' =>
      (strOfNums (bytesOf (cutS s n) n) = s → ∃ g c, e = .returned (.tuple #[.pointer (some ⟨g, 0, none⟩), .int .i64 0]) ∧ RefAt w' g c n (cutS s n) ∧ w.heap.size ≤ g ∧ w.heap.size ≤ c) ∧ (¬ strOfNums (bytesOf (cutS s n) n) = s → e = .returned (.tuple #[.pointer none, .int .i64 4])) ∧ Below w.heap.size w w' := by
  have q0 : (0 : Int) < (s.size : Int) := by omega
  have q1 : (1 : Int) < (s.size : Int) := by omega
  have q2 : (2 : Int) < (s.size : Int) := by omega
  have q3 : (3 : Int) < (s.size : Int) := by omega
  have p0 : 0 < s.size := by omega
  have p1 : 1 < s.size := by omega
  have p2 : 2 < s.size := by omega
  have p3 : 3 < s.size := by omega
  have d4 : decide ((s.size : Int) < 4) = false := decide_eq_false (by omega)
  have dn : ((s.size : Int) - 4 != ((n : Int) + 7) / 8) = false := by have := hn2.out; simp; omega
  have dn2 : decide (65536 < (n : Int)) = false := decide_eq_false (by omega)
  have hmk := make_bools n hn1
  have HTOP := Lib.hid (cutS_top s n)
  generalize hpost : (fun (e : Ending) (w' : World) => (strOfNums (bytesOf (cutS s n) n) = s → ∃ g c, e = .returned (.tuple #[.pointer (some ⟨g, 0, none⟩), .int .i64 0]) ∧ RefAt w' g c n (cutS s n) ∧ w.heap.size ≤ g ∧ w.heap.size ≤ c) ∧ (¬ strOfNums (bytesOf (cutS s n) n) = s → e = .returned (.tuple #[.pointer none, .int .i64 4])) ∧ Below w.heap.size w w') = Post
  have HPOST := Lib.hid hpost
  clear hpost
  go_enter Tryd.func17, Tryd.ntmps17
  go_wp2_with fail
  go_quiet (fail)
  simp only [wrap_twice, HSZ.out]
  generalize wrap64 (wrap64 (wrap64 (wrap64 ((s[0].toNat : Nat) : Int) * 16777216) + wrap64 (wrap64 ((s[1].toNat : Nat) : Int) * 65536)) + wrap64 (wrap64 ((s[2].toNat : Nat) : Int) * 256)) = U3
  generalize wrap64 (wrap64 (wrap64 ((s[0].toNat : Nat) : Int) * 16777216) + wrap64 (wrap64 ((s[1].toNat : Nat) : Int) * 65536)) = U2
  generalize wrap64 (wrap64 ((s[0].toNat : Nat) : Int) * 16777216) = U4
  generalize wrap64 (wrap64 ((s[1].toNat : Nat) : Int) * 65536) = U5
  generalize wrap64 (wrap64 ((s[2].toNat : Nat) : Int) * 256) = U6
  generalize wrap64 ((s[0].toNat : Nat) : Int) = U7
  generalize wrap64 ((s[1].toNat : Nat) : Int) = U8
  generalize wrap64 ((s[2].toNat : Nat) : Int) = U9
  generalize wrap64 ((s[3].toNat : Nat) : Int) = U10
  clear HSZ
  go_wp2_with fail
  have hR0 : RefAt (((w.drewN nq).alloc (.cells (boolsV (fun _ => false) n).toArray 4)).alloc (.cells #[.slice (some ⟨w.heap.size, 0, none⟩) n n] 41)) (w.heap.size + 1) w.heap.size n (cutS s 0) :=
    ⟨Blk.new' _ _ _ _ (by simp), by rw [cutS_zero]; exact (Blk.new _ _ _).alloc _, by omega, hn1⟩
  have hB0 : Below w.heap.size w (((w.drewN nq).alloc (.cells (boolsV (fun _ => false) n).toArray 4)).alloc (.cells #[.slice (some ⟨w.heap.size, 0, none⟩) n n] 41)) := bl_alloc (bl_alloc (bl_drewN (Below.refl _ _) _) _) _
  clear hmk dn dn2
  go_loopw [6] (fun i wr => ∃ k : Nat, k ≤ n ∧ i = .int .i64 k ∧ RefAt wr (w.heap.size + 1) w.heap.size n (cutS s k) ∧ Below w.heap.size w wr) (fun i _ => n - (intOf i).toNat)
  case atStart => exact ⟨0, by omega, rfl, hR0, hB0⟩
  case round =>
    obtain ⟨k, hk, rfl, hr, hbel⟩ := hrel
    clear hR0 hB0
    obtain ⟨wo, rfl⟩ : ∃ wo : World, wo = wr := ⟨_, rfl⟩
    by_cases hlt : k < n
    · as_aux_lemma =>
        have hin : 4 + k / 8 < s.size := by have := hn2.out; omega
        have e1 := bS_at hin
        have hbl := (s[4 + k / 8]).toNat_lt
        have d1 : (k : Int) < n := by omega
        have d2 : (4 : Int) + (k : Int) / 8 < s.size := by omega
        have hbh := bit_half s k
        rw [e1] at hbh
        have HBH := Lib.hid hbh
        have hfin := hr.put hlt (bitS s k)
        rw [cutS_step] at hfin
        have HF := Lib.hid hfin
        have q0 := hr.bools
        have q1 := hr.bit hlt
        have qz := hr.free k
        clear e1 hbh hfin
        go_wp2_with fail
        generalize hB : (s[4 + k / 8]).toNat = B at *
        clear hB
        go_loop [7, 8] (fun x j => ∃ m : Nat, m ≤ k % 8 ∧ x = .int .i64 (B / 2 ^ m : Nat) ∧ j = .int .i64 m) (fun _ j => k % 8 - (intOf j).toNat)
        case atStart => exact ⟨0, by omega, by rw [Nat.pow_zero, Nat.div_one], rfl⟩
        case round =>
          obtain ⟨m, hm, rfl, rfl⟩ := hrel
          by_cases hlm : m < k % 8
          · have hp : B / 2 ^ (m + 1) = B / 2 ^ m / 2 := by rw [Nat.pow_succ, Nat.div_div_eq_div_mul]
            have HPW := Lib.hid hp
            have dm : (m : Int) < (k : Int) % 8 := by omega
            have hX := Nat.div_le_self B (2 ^ m)
            clear hp
            generalize B / 2 ^ m = X at *
            go_wp2_with fail
            go_round
            case rel => exact ⟨m + 1, by omega, by rw [HPW.out]; go_num, by go_num⟩
            case measure => simp [intOf]; omega
          · obtain rfl : m = k % 8 := by omega
            have hbb := HBH.out
            have dm : ¬ ((k % 8 : Nat) : Int) < (k : Int) % 8 := by omega
            generalize B / 2 ^ (k % 8) = X at *
            go_wp2_with fail
            go_roundw
            case rel => exact ⟨k + 1, by omega, by go_num, HF.out, bl_set hbel (Nat.le_refl _) _⟩
            case measure => simp [intOf]; omega
    · as_aux_lemma =>
        obtain rfl : k = n := by omega
        have d1 : ¬ (k : Int) < k := by omega
        go_wp2_with fail
        refine (rbytes_c _ _ k _ _ hr HTOP.out).mono ?_
        rintro e w9 ⟨rfl, hb9⟩
        have hr9 := hr.after hb9
        have hbel9 := bl_trans hbel hb9
        by_cases heq : strOfNums (bytesOf (cutS s k) k) = s
        · have HEQ := Lib.hid heq
          rw [heq]
          clear heq
          go_wp2_with fail
          rw [← HPOST.out]
          exact ⟨fun _ => ⟨_, _, rfl, hr9, by omega, Nat.le_refl _⟩, fun h => absurd HEQ.out h, hbel9⟩
        · have hne : ((strOfNums (bytesOf (cutS s k) k)).toList == s.toList) = false := by
            rw [beq_eq_false_iff_ne]
            intro h
            apply heq
            apply ByteArray.ext
            apply Array.ext'
            rw [Go.ByteArray.toList_eq, Go.ByteArray.toList_eq] at h
            exact h
          have HEQ := Lib.hid heq
          clear heq
          generalize strOfNums (bytesOf (cutS s k) k) = T at *
          go_wp2_with fail
          rw [← HPOST.out]
          exact ⟨fun h => absurd h HEQ.out, fun _ => rfl, hbel9⟩
end Go.Proofs.YtnhaejbakgjelaaDoor
