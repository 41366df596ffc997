/- The walk of the bitmaps' OfBytes. -/
import Derived.Test.YtnhaejbakgjelaaDoorBmZ
import Derived.Test.YtnhaejbakgjelaaDoorOfP
import Derived.Deep.Cut
namespace Go.Proofs.YtnhaejbakgjelaaDoor
open Go.RowKit

theorem of_short (s : ByteArray) (w : World) (h4 : s.size < 4) :
    Calls Tryd.prog 16 #[.string s] w fun e w' => e = .returned (.tuple #[.pointer none, .int .i64 4]) ∧ Below w.heap.size w w' := by
  go_enter Tryd.func16, Tryd.ntmps16
  go_wp2_with fail
  go_ret2
  exact ⟨rfl, Below.refl _ _⟩
set_option maxRecDepth 20000 in
theorem of_size (s : ByteArray) (w : World) (hs : s.size ≤ 9000) (h4 : 4 ≤ s.size) (hn : 65536 < sizeS s ∨ s.size ≠ 4 + (sizeS s + 7) / 8) :
    Calls Tryd.prog 16 #[.string s] w fun e w' => e = .returned (.tuple #[.pointer none, .int .i64 4]) ∧ Below w.heap.size w w' := by
  have q0 : (0 : Int) < (s.size : Int) := by omega
  have q1 : (1 : Int) < (s.size : Int) := by omega
  have q2 : (2 : Int) < (s.size : Int) := by omega
  have q3 : (3 : Int) < (s.size : Int) := by omega
  have p0 : 0 < s.size := by omega
  have p1 : 1 < s.size := by omega
  have p2 : 2 < s.size := by omega
  have p3 : 3 < s.size := by omega
  have d4 : decide ((s.size : Int) < 4) = false := decide_eq_false (by omega)
  have hsz := size_bits s h4
  have hsl : sizeS s < 4294967296 := by
    have a0 := bS_lt s 0
    have a1 := bS_lt s 1
    have a2 := bS_lt s 2
    have a3 := bS_lt s 3
    unfold sizeS; omega
  generalize sizeS s = n at *
  by_cases hb : 65536 < n
  · go_enter Tryd.func16, Tryd.ntmps16
    go_wp2_with fail
    go_quiet (fail)
    go_wp2_with fail
    refine (new_no n _ (by omega)).mono ?_
    rintro e w1 ⟨rfl, rfl⟩
    go_wp2_with fail
    go_ret2
    exact ⟨rfl, bl_drewN (Below.refl _ _) _⟩
  · have dn : ((s.size : Int) != 4 + ((n : Int) + 7) / 8) = true := by simp; omega
    go_enter Tryd.func16, Tryd.ntmps16
    go_wp2_with fail
    go_quiet (fail)
    go_wp2_with fail
    refine (new_c n _ (by omega)).mono ?_
    rintro e w1 ⟨rfl, hm, hb1⟩
    go_wp2_with fail
    go_ret2
    exact ⟨rfl, bl_trans (bl_drewN (Below.refl _ _) _) hb1⟩

/-- a map whose bits above the last one may be ones -/
structure Loose (w : World) (g c n : Nat) (f : Nat → Bool) : Prop where
  head : Blk w g 65 #[.int .i64 n, .slice (some ⟨c, 0, none⟩) ((n + 63) / 64) ((n + 63) / 64)]
  row : Blk w c 54 (wordsV f ((n + 63) / 64)).toArray
  ne : g ≠ c
theorem Loose.drew {w : World} {g c n : Nat} {f : Nat → Bool} (h : Loose w g c n f) : Loose w.drew g c n f := ⟨h.head, h.row, h.ne⟩
theorem Loose.words {w : World} {g c n : Nat} {f : Nat → Bool} (h : Loose w g c n f) : w.cell? ⟨g, 1, none⟩ = some (.slice (some ⟨c, 0, none⟩) ((n + 63) / 64) ((n + 63) / 64)) := (h.head.cell 1).trans rfl
theorem Loose.word {w : World} {g c n : Nat} {f : Nat → Bool} (h : Loose w g c n f) {k : Nat} (hk : k < (n + 63) / 64) : w.cell? ⟨c, k, none⟩ = some (.int .u64 (W f k : Nat)) := (h.row.cell k).trans (wordsV_get f hk)
theorem Loose.free {w : World} {g c n : Nat} {f : Nat → Bool} (h : Loose w g c n f) (k : Nat) : w.frozen? ⟨c, k, none⟩ = false := h.row.frozen k
theorem Loose.read {w : World} {g c n k : Nat} {s : ByteArray} (h : Loose w g c n (readS s k)) (hk : k / 8 < (n + 63) / 64) : Loose (w.setCell ⟨c, k / 8, none⟩ (.int .u64 (W (readS s (k + 1)) (k / 8) : Nat))) g c n (readS s (k + 1)) := by
  refine ⟨h.head.far h.ne _, ?_, h.ne⟩
  rw [← wordsV_put (f := readS s k) (k := k / 8) (fun k' hk' _ => read_other s hk') hk]
  exact h.row.put _ _

/-- what OfBytes answers -/
def Ofd (s : ByteArray) (w0 : World) (e : Ending) (w : World) : Prop :=
  (okS s → ∃ g c, e = .returned (.tuple #[.pointer (some ⟨g, 0, none⟩), .int .i64 0]) ∧ MapAt w g c (sizeS s) (bitS s) ∧ w0.heap.size ≤ g ∧ w0.heap.size ≤ c) ∧ (¬ okS s → e = .returned (.tuple #[.pointer none, .int .i64 4])) ∧ Below w0.heap.size w0 w
set_option maxRecDepth 100000 in
set_option maxHeartbeats 1000000 in
theorem of_loop (s : ByteArray) (w : World) (hs : s.size ≤ 9000) (h4 : 4 ≤ s.size) (hn1 : sizeS s ≤ 65536) (hn2 : s.size = 4 + (sizeS s + 7) / 8) :
    Calls Tryd.prog 16 #[.string s] w (Ofd s w) := by
  have q0 : (0 : Int) < (s.size : Int) := by omega
  have q1 : (1 : Int) < (s.size : Int) := by omega
  have q2 : (2 : Int) < (s.size : Int) := by omega
  have q3 : (3 : Int) < (s.size : Int) := by omega
  have p0 : 0 < s.size := by omega
  have p1 : 1 < s.size := by omega
  have p2 : 2 < s.size := by omega
  have p3 : 3 < s.size := by omega
  have d4 : decide ((s.size : Int) < 4) = false := decide_eq_false (by omega)
  have hsz := size_bits s h4
  have hok : okS s ↔ ∀ x, sizeS s ≤ x → bitS s x = false := ⟨fun h => h.2.2.2, fun h => ⟨h4, hn1, hn2, h⟩⟩
  have hpost : ∀ e w', Ofd s w e w' ↔ ((∀ x, sizeS s ≤ x → bitS s x = false) → ∃ g c, e = .returned (.tuple #[.pointer (some ⟨g, 0, none⟩), .int .i64 0]) ∧ MapAt w' g c (sizeS s) (bitS s) ∧ w.heap.size ≤ g ∧ w.heap.size ≤ c) ∧ (¬ (∀ x, sizeS s ≤ x → bitS s x = false) → e = .returned (.tuple #[.pointer none, .int .i64 4])) ∧ Below w.heap.size w w' := by
    intro e w'; unfold Ofd; rw [hok]
  have HP := Lib.hid hpost
  clear hok hpost
  generalize sizeS s = n at *
  have dn : ((s.size : Int) != 4 + ((n : Int) + 7) / 8) = false := by simp; omega
  have HN2 := Lib.hid hn2
  clear hn2
  go_enter Tryd.func16, Tryd.ntmps16
  go_wp2_with fail
  go_quiet (fail)
  go_upto_region 4 with (fail)
  generalize hU3 : bits .or .i64 (bits .or .i64 (wrap64 (wrap64 ((s[0].toNat : Nat) : Int) * 16777216)) (wrap64 (wrap64 ((s[1].toNat : Nat) : Int) * 65536))) (wrap64 (wrap64 ((s[2].toNat : Nat) : Int) * 256)) = U3
  clear hU3
  generalize hU2 : bits .or .i64 (wrap64 (wrap64 ((s[0].toNat : Nat) : Int) * 16777216)) (wrap64 (wrap64 ((s[1].toNat : Nat) : Int) * 65536)) = U2
  clear hU2
  generalize wrap64 (wrap64 ((s[0].toNat : Nat) : Int) * 16777216) = U4
  generalize wrap64 (wrap64 ((s[1].toNat : Nat) : Int) * 65536) = U5
  generalize wrap64 (wrap64 ((s[2].toNat : Nat) : Int) * 256) = U6
  generalize wrap64 ((s[0].toNat : Nat) : Int) = U7
  generalize wrap64 ((s[1].toNat : Nat) : Int) = U8
  generalize wrap64 ((s[2].toNat : Nat) : Int) = U9
  generalize wrap64 ((s[3].toNat : Nat) : Int) = U10
  go_wp2_with fail
  refine (new_c n _ (by omega)).mono ?_
  rintro e w1 ⟨rfl, hm, hb1⟩
  have hb1' := bl_trans (bl_drewN (Below.refl w.heap.size w) nq) hb1
  have hcl : w.heap.size ≤ (w.drewN nq).heap.size := Nat.le_refl _
  have hgl : w.heap.size ≤ (w.drewN nq).heap.size + 1 := Nat.le_succ _
  clear hb1 hsz
  generalize (w.drewN nq).heap.size + 1 = g at *
  generalize (w.drewN nq).heap.size = c at *
  have hm1 : Loose w1 g c n (readS s 0) := ⟨hm.head, by rw [read_start]; exact hm.row, hm.ne⟩
  clear hm
  go_wp2_with fail
  go_loopw [49] (fun i wr => ∃ k : Nat, 4 + k ≤ s.size ∧ i = .int .i64 k ∧ Loose wr g c n (readS s k) ∧ Below w.heap.size w wr) (fun i _ => s.size - (intOf i).toNat)
  case atStart => exact ⟨0, by omega, rfl, hm1, hb1'⟩
  case round =>
    obtain ⟨k, hk, rfl, hl, hbel⟩ := hrel
    have k1 := hl.words
    have hfree := hl.free (k / 8)
    by_cases hlt : 4 + k < s.size
    · as_aux_lemma =>
        have hkk : k / 8 < (n + 63) / 64 := by have := HN2.out; omega
        have k2 := hl.word hkk
        have hst := read_step s k
        have hfin := hl.drew.read hkk
        have HF := Lib.hid hfin
        have hbyte := bS_at hlt
        rw [hbyte] at hst
        have d1 : (k : Int) < (s.size : Int) - 4 := by omega
        have d2 : (k : Int) / 8 < ((n : Int) + 63) / 64 := by omega
        have d3 : (4 : Int) + (k : Int) < (s.size : Int) := by omega
        clear hfin hbyte
        go_wp2_with fail
        have r1 : IntKind.i64.wrap ((k : Int) / 8) = (k : Int) / 8 := IntWalk.i64_in _ (by omega)
        have r2 : 0 ≤ (k : Int) / 8 := by omega
        have r3 : ((k : Int) / 8).toNat = k / 8 := by omega
        have r4 : IntKind.i64.wrap (4 + (k : Int)) = 4 + (k : Int) := IntWalk.i64_in _ (by omega)
        have r5 : 0 ≤ 4 + (k : Int) := by omega
        have r6 : (4 + (k : Int)).toNat = 4 + k := by omega
        have r7 : IntKind.i64.wrap ((k : Int) % 8 * 8) = (k : Int) % 8 * 8 := IntWalk.i64_in _ (by omega)
        have r8 : 0 ≤ (k : Int) % 8 * 8 := by omega
        have r9 : ((k : Int) % 8 * 8).toNat = k % 8 * 8 := by omega
        have r10 : (k : Int).tmod 8 = (k : Int) % 8 := Int.tmod_eq_emod_of_nonneg (by omega)
        have r11 : (k : Int) % 8 * 8 ≤ 64 := by omega
        have r12 : IntKind.u64.wrap ((s[4 + k].toNat : Nat) : Int) = ((s[4 + k].toNat : Nat) : Int) := by have := s[4 + k].toNat_lt; rw [IntKind.wrap_u64]; omega
        go_still_tail 19, (by kernel_rfl)
        change wpList _ _ _ _ _ wr.drew
        have t1 : wr.drew.cell? ⟨c, k / 8, none⟩ = some (Value.int .u64 (W (readS s k) (k / 8) : Nat)) := k2
        have t2 : wr.drew.frozen? ⟨c, k / 8, none⟩ = false := hfree
        have hbel2 := bl_drew hbel
        clear r1 r2 r3 r7 r8 r9 r10 r11 r12 k1 k2 hfree hst hl hbel
        generalize wr.drew = w2 at *
        go_wp2_with fail
        go_roundw
        case rel => exact ⟨k + 1, by omega, by go_num, HF.out, bl_set hbel2 hcl _⟩
        case measure => simp [intOf]; omega
    · have hsz : s.size = 4 + k := by omega
      rw [read_end s hsz] at hl
      have hlast := rest_zero (f := bitS s) (n := n)
      have htop : ∀ x, 64 * ((n + 63) / 64) ≤ x → bitS s x = false := fun x hx => by
        unfold bitS; rw [bS_end (by have := HN2.out; omega)]; simp
      have d1 : ¬ (k : Int) < (s.size : Int) - 4 := by omega
      have hfinal : (∀ x, n ≤ x → bitS s x = false) → MapAt wr g c n (bitS s) := fun h => ⟨hl.head, hl.row, hl.ne, hn1, h⟩
      by_cases hr : n % 64 = 0
      · as_aux_lemma =>
          have hall : ∀ x, n ≤ x → bitS s x = false := fun x hx => htop x (by omega)
          have HFIN := Lib.hid (hfinal hall)
          have HALL := Lib.hid hall
          have d2 : decide (0 < (n : Int) % 64) = false := decide_eq_false (by omega)
          have d3 : ((n : Int) % 64) = 0 := by omega
          clear hall hfinal hlast htop hsz k1 hfree
          go_wp2_with fail
          go_quiet (fail)
          go_wp2_with fail
          go_ret2
          exact (HP.out _ _).2 ⟨fun _ => ⟨g, c, rfl, ⟨HFIN.out.head, HFIN.out.row, HFIN.out.ne, HFIN.out.small, HFIN.out.top⟩, hgl, hcl⟩, fun h => absurd HALL.out h, bl_drewN hbel _⟩
      · have hlast := hlast (by omega)
        have k2 := hl.word (k := n / 64) (by omega)
        have hiff : W (bitS s) (n / 64) / 2 ^ (n % 64) = 0 ↔ ∀ x, n ≤ x → bitS s x = false := by
          rw [hlast]
          exact ⟨fun h x hx => by
            by_cases e : x < 64 * (n / 64) + 64
            · exact h x hx e
            · exact htop x (by omega), fun h x hx _ => h x hx⟩
        have e1 : ((W (bitS s) (n / 64) : Nat) : Int) / 2 ^ (n % 64) = ((W (bitS s) (n / 64) / 2 ^ (n % 64) : Nat) : Int) := by simp
        have d2 : decide (0 < (n : Int) % 64) = true := decide_eq_true (by omega)
        clear hlast htop hsz
        by_cases hall : ∀ x, n ≤ x → bitS s x = false
        · as_aux_lemma =>
            have d3 : ((W (bitS s) (n / 64) : Nat) : Int) / 2 ^ (n % 64) = 0 := by rw [e1, hiff.2 hall]; rfl
            have HFIN := Lib.hid (hfinal hall)
            have HALL := Lib.hid hall
            clear hall hfinal hiff e1
            go_wp2_with fail
            have r1 : IntKind.i64.wrap (((n : Int) + 63) / 64 - 1) = ((n / 64 : Nat) : Int) := by
              rw [show (((n : Int) + 63) / 64 - 1) = ((n / 64 : Nat) : Int) from by omega]; exact IntWalk.i64_in _ (by omega)
            have r2 : (0 : Int) ≤ (n : Int) / 64 := by omega
            have r3 : ((n : Int) / 64).toNat = n / 64 := by omega
            have r4 : (n : Int) / 64 < ((n : Int) + 63) / 64 := by omega
            have r5 : 0 ≤ (n : Int) % 64 := by omega
            have r6 : ((n : Int) % 64).toNat = n % 64 := by omega
            have r7 : (n : Int) % 64 ≤ 64 := by omega
            go_quiet (fail)
            clear r1 r2 r3 r4 r5 r6 r7
            go_wp2_with fail
            go_ret2
            exact (HP.out _ _).2 ⟨fun _ => ⟨g, c, rfl, ⟨HFIN.out.head, HFIN.out.row, HFIN.out.ne, HFIN.out.small, HFIN.out.top⟩, hgl, hcl⟩, fun h => absurd HALL.out h, bl_drewN hbel _⟩
        · as_aux_lemma =>
            have d3 : (((W (bitS s) (n / 64) : Nat) : Int) / 2 ^ (n % 64) != 0) = true := by
              rw [e1]; simp only [bne_iff_ne, ne_eq]
              intro h
              exact hall (hiff.1 (by omega))
            have HALL := Lib.hid hall
            clear hall hfinal hiff e1
            go_wp2_with fail
            have r1 : IntKind.i64.wrap (((n : Int) + 63) / 64 - 1) = ((n / 64 : Nat) : Int) := by
              rw [show (((n : Int) + 63) / 64 - 1) = ((n / 64 : Nat) : Int) from by omega]; exact IntWalk.i64_in _ (by omega)
            have r2 : (0 : Int) ≤ (n : Int) / 64 := by omega
            have r3 : ((n : Int) / 64).toNat = n / 64 := by omega
            have r4 : (n : Int) / 64 < ((n : Int) + 63) / 64 := by omega
            have r5 : 0 ≤ (n : Int) % 64 := by omega
            have r6 : ((n : Int) % 64).toNat = n % 64 := by omega
            have r7 : (n : Int) % 64 ≤ 64 := by omega
            go_quiet (fail)
            clear r1 r2 r3 r4 r5 r6 r7
            go_wp2_with fail
            go_ret2
            exact (HP.out _ _).2 ⟨fun h => absurd h HALL.out, fun _ => rfl, bl_drewN hbel _⟩
end Go.Proofs.YtnhaejbakgjelaaDoor
