/- The walks of the bitmaps' seek, Next. -/
import Derived.Test.YtnhaejbakgjelaaDoorBmD
namespace Go.Proofs.YtnhaejbakgjelaaDoor
open Go.RowKit

theorem i_xor (f : Nat → Bool) (k : Nat) : bits .xor .u64 IntKind.u64.max (W f k : Int) = ((W (fun i => !f i) k : Nat) : Int) := by
  have e : IntKind.u64.max = ((18446744073709551615 : Nat) : Int) := by decide
  rw [e, u64_xor_nat _ _ (by omega) (W_lt f k), ← W_not]
  have h := W_lt' f k
  congr 1
  apply Nat.eq_of_testBit_eq
  intro j
  rw [Nat.testBit_xor, show 18446744073709551615 = 2 ^ 64 - 1 from rfl, Nat.testBit_two_pow_sub_one, show 2 ^ 64 - 1 - W f k = 2 ^ 64 - (W f k + 1) from by omega, Nat.testBit_two_pow_sub_succ h]
  by_cases hj : j < 64
  · simp [hj]
  · have : (W f k).testBit j = false := by rw [W_bit]; simp [hj]
    simp [hj, this]
theorem low_ones (m : Nat) : IntKind.u64.wrap (2 ^ (m % 64) - 1) = ((W (fun x => decide (x < m)) (m / 64) : Nat) : Int) := by
  have h := W_low (k := m / 64) (j := m % 64) (by omega)
  rw [show 64 * (m / 64) + m % 64 = m from by omega] at h
  rw [← h]
  obtain ⟨a, b⟩ := two_lt (show m % 64 < 64 by omega)
  have p := Nat.two_pow_pos (m % 64)
  rw [Int.natCast_sub (by omega), Int.natCast_pow]
  rw [IntKind.wrap_u64]
  show (2 ^ (m % 64) - 1) % 18446744073709551616 = (2 : Int) ^ (m % 64) - 1
  generalize (2 : Int) ^ (m % 64) = x at *
  omega
/-- what is free in a word from bit m on -/
def fr (f : Nat → Bool) (m : Nat) : Nat → Bool := fun x => !f x && !decide (x < m)
theorem fr_zero {f : Nat → Bool} {m : Nat} (h : W (fr f m) (m / 64) = 0) : ∀ x, m ≤ x → x < 64 * (m / 64 + 1) → f x = true := by
  intro x h1 h2
  have := W_eq_zero h (x - 64 * (m / 64)) (by omega)
  rw [show 64 * (m / 64) + (x - 64 * (m / 64)) = x from by omega] at this
  unfold fr at this
  simpa [show ¬ x < m by omega] using this
theorem fr_first {f : Nat → Bool} {m : Nat} (h : W (fr f m) (m / 64) ≠ 0) : ∃ t, Lib.ctz 64 (W (fr f m) (m / 64)) = t ∧ t < 64 ∧ m ≤ 64 * (m / 64) + t ∧ f (64 * (m / 64) + t) = false ∧ ∀ x, m ≤ x → x < 64 * (m / 64) + t → f x = true := by
  obtain ⟨a, b, c⟩ := ctz_W h
  generalize Lib.ctz 64 (W (fr f m) (m / 64)) = t at *
  unfold fr at b
  simp at b
  refine ⟨t, rfl, a, by omega, b.1, fun x h1 h2 => ?_⟩
  have := c (x - 64 * (m / 64)) (by omega)
  rw [show 64 * (m / 64) + (x - 64 * (m / 64)) = x from by omega] at this
  unfold fr at this
  simpa [show ¬ x < m by omega] using this
theorem Tab.after {w w' : World} (h : Tab w) (hg : 0 < w.heap.size) (hb : Below w.heap.size w w') : Tab w' := fun j hj => (hb.cell (p := ⟨0, j, none⟩) hg).trans (h j hj)
theorem Tab.drewN {w : World} (h : Tab w) (n : Nat) : Tab (w.drewN n) := fun j hj => h j hj
theorem Tab.lt {w : World} (h : Tab w) : 0 < w.heap.size := by
  have := h 0 (by decide)
  rcases Nat.lt_or_ge 0 w.heap.size with k | k
  · exact k
  · unfold World.cell? at this
    simp [Array.getElem?_eq_none k] at this

/-- the answer of seek from a below e -/
def Sought (f : Nat → Bool) (a e : Nat) (w0 : World) (x : Ending) (w : World) : Prop :=
  ∃ (i : Nat) (b : Bool), x = .returned (.tuple #[.int .i64 i, .bool b]) ∧ (b = true → a ≤ i ∧ i < e ∧ f i = false ∧ ∀ y, a ≤ y → y < i → f y = true) ∧ (b = false → ∀ y, a ≤ y → y < e → f y = true) ∧ Below w0.heap.size w0 w
set_option maxRecDepth 20000 in
theorem seek_c (g c n a e : Nat) (f : Nat → Bool) (w : World) (h : MapAt w g c n f) (hT : Tab w) (he : e ≤ n) (ha : a ≤ n) :
    Calls Tryd.prog 40 #[.pointer (some ⟨g, 0, none⟩), .int .i64 a, .int .i64 e] w (Sought f a e w) := by
  have hs := h.small
  have hTl := hT.lt
  go_enter Tryd.func40, Tryd.ntmps40
  go_wp2_with fail
  go_loopw [8] (fun i wr => ∃ m : Nat, i = .int .i64 m ∧ a ≤ m ∧ (∀ y, a ≤ y → y < m → f y = true) ∧ Below w.heap.size w wr) (fun k _ => n - (intOf k).toNat)
  case atStart => exact ⟨a, rfl, by omega, fun y h1 h2 => absurd h1 (by omega), Below.refl _ _⟩
  case round =>
    obtain ⟨m, rfl, hm, hall, hbel⟩ := hrel
    have HA := Lib.hid hall
    clear hall
    by_cases hlt : m < e
    · have dk : decide (m < e) = true := decide_eq_true hlt
      have h2 := h.after hbel
      have hT2 := hT.after hTl hbel
      have k1 := h2.words
      have k2 := h2.word (k := m / 64) (by omega)
      have d2 : (m : Int) / 64 < ((n : Int) + 63) / 64 := by omega
      have s1 : ¬ IntKind.u64.signed = true := by decide
      have s2 := wrap_pow (Nat.mod_lt m (show 0 < 64 by omega))
      have s3 := low_ones m
      have s4 := i_xor f (m / 64)
      have s5 := i_andNot (fun i => !f i) (fun x => decide (x < m)) (m / 64)
      change _ = ((W (fr f m) (m / 64) : Nat) : Int) at s5
      by_cases h0 : W (fr f m) (m / 64) = 0
      · have hz := fr_zero h0
        have HZ := Lib.hid hz
        rw [h0] at s5
        clear hz
        go_wp2_with fail
        refine (at_c m _ (by omega)).mono ?_
        rintro e w' ⟨rfl, rfl⟩
        go_wp2_with fail
        go_quiet (fail)
        go_wp2_with fail
        go_roundw
        case rel =>
          refine ⟨64 * (m / 64 + 1), by go_num, by omega, fun y h1 h2 => ?_, bl_drewN hbel _⟩
          by_cases hy : y < m
          · exact HA.out y h1 hy
          · exact HZ.out y (by omega) h2
        case measure => simp [intOf]; omega
      · obtain ⟨t, ht, t1, t2, t3, t4⟩ := fr_first h0
        have T3 := Lib.hid t3
        have T4 := Lib.hid t4
        have htz := tz_c (W (fr f m) (m / 64)) 
        rw [ht] at htz
        have d3 : (((W (fr f m) (m / 64) : Nat) : Int) != 0) = true := by simp; omega
        have hWl := W_lt (fr f m) (m / 64)
        clear t3 t4 ht
        generalize W (fr f m) (m / 64) = F at *
        have HTZ := Lib.hid htz
        clear htz
        go_wp2_with fail
        refine (at_c m _ (by omega)).mono ?_
        rintro e w' ⟨rfl, rfl⟩
        go_wp2_with fail
        go_quiet (fail)
        go_wp2_with fail
        refine (HTZ.out _ h0 hWl (hT2.drewN _)).mono ?_
        rintro e w' ⟨rfl, rfl⟩
        go_wp2_with fail
        go_ret2
        refine ⟨64 * (m / 64) + t, decide (64 * (m / 64) + t < e), ?_, fun hb => ⟨by omega, of_decide_eq_true hb, T3.out, fun y h1 h2 => ?_⟩, fun hb y h1 h2 => ?_, bl_drewN hbel _⟩
        · have e1 : ((m : Int) / 64 * 64 + t) = ((64 * (m / 64) + t : Nat) : Int) := by omega
          have e2 : decide ((m : Int) / 64 * 64 + t < e) = decide (64 * (m / 64) + t < e) := by
            rw [Bool.eq_iff_iff]; simp only [decide_eq_true_eq]; omega
          exact ret_tup2 (int_eq e1) (congrArg Value.bool e2)
        · by_cases hy : y < m
          · exact HA.out y h1 hy
          · exact T4.out y (by omega) h2
        · by_cases hy : y < m
          · exact HA.out y h1 hy
          · exact T4.out y (by omega) (Nat.lt_of_lt_of_le h2 (by have := of_decide_eq_false hb; omega))
    · have dk : decide (m < e) = false := decide_eq_false hlt
      go_wp2_with fail
      go_ret2
      refine ⟨0, false, rfl, by simp, fun _ y h1 h2 => HA.out y h1 (by omega), hbel⟩

/-- the first one from a on, round once, that isn't a one -/
def IsNext (f : Nat → Bool) (n a j : Nat) : Prop := j < n ∧ f j = false ∧ ((a ≤ j ∧ ∀ y, a ≤ y → y < j → f y = true) ∨ (j < a ∧ (∀ y, a ≤ y → y < n → f y = true) ∧ ∀ y, y < j → f y = true))
def Nexted (f : Nat → Bool) (n a : Nat) (w0 : World) (x : Ending) (w : World) : Prop :=
  ∃ (i : Nat) (b : Bool), x = .returned (.tuple #[.int .i64 i, .bool b]) ∧ (b = true → IsNext f n a i) ∧ (b = false → i = 0 ∧ ∀ y, y < n → f y = true) ∧ Below w0.heap.size w0 w
theorem next_nil (i : Int) (w : World) :
    Calls Tryd.prog 14 #[.pointer none, .int .i64 i] w fun e w' => e = .returned (.tuple #[.int .i64 0, .bool false]) ∧ w = w' := by
  go_enter Tryd.func14, Tryd.ntmps14
  go_wp2
  go_ret2
  exact ⟨rfl, rfl⟩
/-- where a search begins -/
def startAt (i : Int) (n : Nat) : Nat := i.toNat % n
theorem seek_z (g c n e : Nat) (f : Nat → Bool) (w : World) (h : MapAt w g c n f) (hT : Tab w) (he : e ≤ n) :
    Calls Tryd.prog 40 #[.pointer (some ⟨g, 0, none⟩), .int .i64 0, .int .i64 e] w (Sought f 0 e w) := seek_c g c n 0 e f w h hT he (by omega)
theorem next_fin {f : Nat → Bool} {n a j : Nat} {w0 w1 w : World} (ha : a ≤ n) (hbel : Below w0.heap.size w0 w1) (h0 : ∀ y, a ≤ y → y < n → f y = true)
    {b : Bool} (h1 : b = true → 0 ≤ j ∧ j < a ∧ f j = false ∧ ∀ y, 0 ≤ y → y < j → f y = true) (h2 : b = false → ∀ y, 0 ≤ y → y < a → f y = true) (hb2 : Below w1.heap.size w1 w) :
    (b = true → IsNext f n a j) ∧ (b = false → ∀ y, y < n → f y = true) ∧ Below w0.heap.size w0 w := by
  refine ⟨fun hb => ?_, fun hb y hy => ?_, bl_trans hbel hb2⟩
  · obtain ⟨_, q1, q2, q3⟩ := h1 hb
    exact ⟨by omega, q2, Or.inr ⟨q1, h0, fun y hy => q3 y (by omega) hy⟩⟩
  · by_cases e : y < a
    · exact h2 hb y (by omega) e
    · exact h0 y (by omega) hy
theorem next_c (g c n : Nat) (f : Nat → Bool) (i : Int) (w : World) (h : MapAt w g c n f) (hT : Tab w) :
    Calls Tryd.prog 14 #[.pointer (some ⟨g, 0, none⟩), .int .i64 i] w (Nexted f n (startAt i n) w) := by
  have hs := h.small
  have h0 := h.size
  by_cases hn : n = 0
  · have d0 : ((n : Int) == 0) = true := by simp [hn]
    have HN := Lib.hid hn
    clear hn
    go_enter Tryd.func14, Tryd.ntmps14
    go_wp2_with fail
    go_ret2
    exact ⟨0, false, rfl, by simp, fun _ => ⟨rfl, fun y hy => by have := HN.out; omega⟩, Below.refl _ _⟩
  · have d0 : ((n : Int) == 0) = false := by simp [hn]
    have ha : startAt i n < n := Nat.mod_lt _ (by omega)
    by_cases hi : i ≤ 0
    · have e0 : startAt i n = 0 := by unfold startAt; rw [show i.toNat = 0 from by omega, Nat.zero_mod]
      rw [e0]
      have hmx : ¬ 0 < i := by omega
      clear ha e0
      go_enter Tryd.func14, Tryd.ntmps14
      go_wp2_with fail
      refine (seek_z g c n n f _ h hT (Nat.le_refl _)).mono ?_
      rintro e w1 ⟨j, b, rfl, q1, q2, hbel⟩
      have Q1 := Lib.hid q1
      have Q2 := Lib.hid q2
      clear q1 q2
      have h1 := h.after hbel
      have hT1 := hT.after hT.lt hbel
      cases b
      · go_wp2_with fail
        refine (seek_z g c n 0 f _ h1 hT1 (by omega)).mono ?_
        rintro e w2 ⟨j2, b2, rfl, q3, q4, hbel2⟩
        obtain ⟨z1, z2, z3⟩ := next_fin (n := n) (a := 0) (by omega) hbel (Q2.out (by trivial)) q3 q4 hbel2
        have Z1 := Lib.hid z1
        have Z2 := Lib.hid z2
        clear z1 z2 q3 q4
        cases b2
        · go_wp2_with fail
          go_ret2
          exact ⟨0, false, rfl, by simp, fun _ => ⟨rfl, Z2.out (by trivial)⟩, z3⟩
        · go_wp2_with fail
          go_ret2
          exact ⟨j2, true, rfl, fun _ => Z1.out (by trivial), by simp, z3⟩
      · go_wp2_with fail
        go_ret2
        obtain ⟨q1, q2, q3, q4⟩ := Q1.out (by trivial)
        exact ⟨j, true, rfl, fun _ => ⟨q2, q3, Or.inl ⟨q1, q4⟩⟩, by simp, hbel⟩
    · obtain ⟨I, rfl⟩ := Int.eq_ofNat_of_zero_le (show 0 ≤ i by omega)
      have hmod : (I : Int) % n = (startAt (I : Int) n : Nat) := by unfold startAt; simp
      generalize startAt (I : Int) n = a at *
      have hmx : 0 < I := by omega
      go_enter Tryd.func14, Tryd.ntmps14
      go_wp2_with fail
      refine (seek_c g c n a n f _ h hT (Nat.le_refl _) (by omega)).mono ?_
      rintro e w1 ⟨j, b, rfl, q1, q2, hbel⟩
      have Q1 := Lib.hid q1
      have Q2 := Lib.hid q2
      clear q1 q2
      have h1 := h.after hbel
      have hT1 := hT.after hT.lt hbel
      cases b
      · go_wp2_with fail
        refine (seek_z g c n a f _ h1 hT1 (by omega)).mono ?_
        rintro e w2 ⟨j2, b2, rfl, q3, q4, hbel2⟩
        obtain ⟨z1, z2, z3⟩ := next_fin (n := n) (a := a) (by omega) hbel (Q2.out (by trivial)) q3 q4 hbel2
        have Z1 := Lib.hid z1
        have Z2 := Lib.hid z2
        clear z1 z2 q3 q4
        cases b2
        · go_wp2_with fail
          go_ret2
          exact ⟨0, false, rfl, by simp, fun _ => ⟨rfl, Z2.out (by trivial)⟩, z3⟩
        · go_wp2_with fail
          go_ret2
          exact ⟨j2, true, rfl, fun _ => Z1.out (by trivial), by simp, z3⟩
      · go_wp2_with fail
        go_ret2
        obtain ⟨q1, q2, q3, q4⟩ := Q1.out (by trivial)
        exact ⟨j, true, rfl, fun _ => ⟨q2, q3, Or.inl ⟨q1, q4⟩⟩, by simp, hbel⟩
end Go.Proofs.YtnhaejbakgjelaaDoor
