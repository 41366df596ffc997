/- The walk of the reference's Bytes. -/
import Derived.Test.YtnhaejbakgjelaaDoorBmS
import Derived.Test.YtnhaejbakgjelaaDoorBmY
namespace Go.Proofs.YtnhaejbakgjelaaDoor
open Go.RowKit

theorem b8_stop {f : Nat → Bool} {a m : Nat} (h : ∀ x, a + m ≤ x → f x = false) (d : Nat) : b8 f a (m + d) = b8 f a m := by
  induction d with
  | zero => rfl
  | succ d ih => rw [← Nat.add_assoc, b8, h (a + (m + d)) (by omega), ih]; simp
theorem b8_end {f : Nat → Bool} {a m : Nat} (h : ∀ x, a + m ≤ x → f x = false) (hm : m ≤ 8) : b8 f a m = by8 f a := by
  have := b8_stop h (8 - m)
  rw [show m + (8 - m) = 8 from by omega] at this
  unfold by8
  exact this.symm
set_option maxRecDepth 20000 in
theorem rbytes_c (g c n : Nat) (f : Nat → Bool) (w : World) (h : RefAt w g c n f) (htop : ∀ x, n ≤ x → f x = false) :
    Calls Tryd.prog 26 #[.pointer (some ⟨g, 0, none⟩)] w fun e w' => e = .returned (.string (strOfNums (bytesOf f n))) ∧ Below w.heap.size w w' := by
  have h0 := h.bools
  have hs := h.small
  have HT := Lib.hid htop
  clear htop
  obtain ⟨i0, hi0, hz0, hz1, hz2⟩ := info_parts info_u8
  have hown0 : (w.alloc (.cells (bytesV (hdr n)).toArray 5)).ownsRow w.heap.size 5 1 (.slice (some ⟨w.heap.size, 0, none⟩) 4 4) 4 (bytesV (hdr n)) := own_laid w (hdr n) (by simp [hdr, maxLen]) w.heap.size (Nat.le_refl _)
  rw [show hdr n = [(n : Int) / 16777216, (n : Int) / 65536 % 256, (n : Int) / 256 % 256, (n : Int) % 256] from by
    unfold hdr
    simp only [List.cons.injEq, and_true]
    refine ⟨by omega, by omega, by omega, by omega⟩] at hown0
  go_enter Tryd.func26, Tryd.ntmps26
  go_wp2_with fail
  go_loopw [4, 5] (fun b i wr => ∃ t : Nat, t ≤ (n + 7) / 8 ∧ i = .int .i64 (8 * t : Nat) ∧ wr.ownsRow w.heap.size 5 1 b (4 + t) (bytesV (hdr n ++ body f t)) ∧ Below w.heap.size w wr) (fun _ i _ => n + 8 - (intOf i).toNat)
  case atStart => exact ⟨0, by omega, rfl, by
    rw [show body f 0 = [] from rfl, List.append_nil, show hdr n = [(n : Int) / 16777216, (n : Int) / 65536 % 256, (n : Int) / 256 % 256, (n : Int) % 256] from by
      unfold hdr
      simp only [List.cons.injEq, and_true]
      refine ⟨by omega, by omega, by omega, by omega⟩]
    exact hown0, bl_alloc (Below.refl _ _) _⟩
  case round =>
    obtain ⟨t, ht, rfl, hown, hbel⟩ := hrel
    clear hown0
    obtain ⟨wo, rfl⟩ : ∃ wo : World, wo = wr := ⟨_, rfl⟩
    have h3 := h.after hbel
    have q0 := h3.bools
    by_cases hlt : 8 * t < n
    · have hz := hbel.size
      have d1 : ((8 * t : Nat) : Int) < n := by omega
      have hbo : (hdr n ++ body f (t + 1)) = hdr n ++ body f t ++ [((by8 f (8 * t) : Nat) : Int)] := by rw [body_succ, List.append_assoc]
      have HBO := Lib.hid hbo
      have hq : ∀ k, k < n → wo.cell? ⟨c, k, none⟩ = some (.bool (f k)) := fun k hk => h3.bit hk
      have HQ := Lib.hid hq
      clear hbo hq
      go_wp2_with fail
      go_loop [6, 7, 8] (fun x p k => ∃ m : Nat, m ≤ 8 ∧ x = .int .i64 (b8 f (8 * t) m : Nat) ∧ p = .int .i64 (2 ^ m : Nat) ∧ k = .int .i64 (8 * t + m : Nat)) (fun _ _ k => 8 * t + 8 - (intOf k).toNat)
      case atStart => exact ⟨0, by omega, rfl, rfl, by go_num⟩
      case round =>
        obtain ⟨m, hm, rfl, rfl, rfl⟩ := hrel
        by_cases hin : m < 8 ∧ 8 * t + m < n
        · obtain ⟨hm8, hin⟩ := hin
          have q1 := HQ.out _ hin
          have hb := b8_lt f (8 * t) m
          have hp2 : 2 ^ m ≤ 128 := Nat.pow_le_pow_right (n := 2) (by omega) (show m ≤ 7 by omega)
          have hpw : 2 ^ (m + 1) = 2 ^ m * 2 := Nat.pow_succ 2 m
          have hbb : b8 f (8 * t) (m + 1) = 2 ^ m * (f (8 * t + m)).toNat + b8 f (8 * t) m := rfl
          have dm : (m : Int) < 8 := by omega
          cases hf : f (8 * t + m)
          all_goals
            rw [hf] at q1 hbb
            have HPW := Lib.hid hpw
            have HBB := Lib.hid hbb
            clear hpw hbb hf
            generalize b8 f (8 * t) m = x at *
            generalize 2 ^ m = p at *
            go_wp2_with fail
            go_round
            case rel => exact ⟨m + 1, by omega, by rw [HBB.out]; first | (simp; done) | (simp; omega), by rw [HPW.out]; go_num, by go_num⟩
            case measure => simp [intOf]; omega
        · have hend : b8 f (8 * t) m = by8 f (8 * t) := by
            by_cases e : m = 8
            · subst e; unfold by8; rfl
            · exact b8_end (fun x hx => HT.out x (by omega)) hm
          rw [hend]
          have hl8 := by8_lt f (8 * t)
          have e1 : IntKind.u8.wrap ((by8 f (8 * t) : Nat) : Int) = ((by8 f (8 * t) : Nat) : Int) := by rw [u8_wrap, Nat.mod_eq_of_lt hl8]
          clear hend
          by_cases e : m = 8
          · subst e
            go_wp2_with (at_builtin; refine wpList_append_own _ rfl _ _ 72 rfl w.heap.size 5 i0 (.int .u8 0) 1 1 Tryd.underlying72 hi0 hz0 hz1 hz2 rfl (by decide) _ _ _ rfl (hown.alloc _) ⟨wo.heap.size, 0, none⟩ 1 1 [.int .u8 ((by8 f (8 * t) : Nat) : Int)] rfl rfl ?c1a ?c2a ?c3a ?c4a ?c5a ?_)
            (try case c1a => exact cell_one _ _ _)
            case c2a => (first | exact one_cell_k _ _ | rfl)
            case c3a => (first | omega | (simp only [maxLen]; omega))
            case c4a => omega
            case c5a => (first | omega | (simp; omega))
            intro v' w1 hown' hgrow _
            have hbel1 := below_own hbel hown (Nat.le_refl _) hgrow
            clear hown hgrow h3 q0 e1
            go_wp2_with fail
            go_roundw
            case rel => exact ⟨t + 1, by omega, by go_num, by rw [HBO.out, bytesV_snoc]; exact hown', hbel1⟩
            case measure => simp [intOf]; omega
          · have e2 : ¬ ((8 * t + m : Nat) : Int) < n := by omega
            go_wp2_with (at_builtin; refine wpList_append_own _ rfl _ _ 72 rfl w.heap.size 5 i0 (.int .u8 0) 1 1 Tryd.underlying72 hi0 hz0 hz1 hz2 rfl (by decide) _ _ _ rfl (hown.alloc _) ⟨wo.heap.size, 0, none⟩ 1 1 [.int .u8 ((by8 f (8 * t) : Nat) : Int)] rfl rfl ?c1b ?c2b ?c3b ?c4b ?c5b ?_)
            (try case c1b => exact cell_one _ _ _)
            case c2b => (first | exact one_cell_k _ _ | rfl)
            case c3b => (first | omega | (simp only [maxLen]; omega))
            case c4b => omega
            case c5b => (first | omega | (simp; omega))
            intro v' w1 hown' hgrow _
            have hbel1 := below_own hbel hown (Nat.le_refl _) hgrow
            clear hown hgrow h3 q0 e1
            go_wp2_with fail
            go_roundw
            case rel => exact ⟨t + 1, by omega, by go_num, by rw [HBO.out, bytesV_snoc]; exact hown', hbel1⟩
            case measure => simp [intOf]; omega
    · obtain rfl : t = (n + 7) / 8 := by omega
      obtain ⟨gb, cap, rfl, hg1, hg2, hg3, hg4, hg5⟩ := own_form hown (by omega)
      have hconv := run_convert_bytes_arg (P := Tryd.prog) wo 72 5 Tryd.underlying72 Tryd.underlying5 gb 0 (4 + (n + 7) / 8) cap (bytesOf f n) (bytesOf_length f n) (fun j hj => by
        rw [Nat.zero_add]
        exact hg4 j _ (get_bytes (by rw [show hdr n ++ body f ((n + 7) / 8) = bytesOf f n from rfl, bytesOf_length]; exact hj))) 9 Tryd.underlying9
      have d1 : ¬ ((8 * ((n + 7) / 8) : Nat) : Int) < n := by omega
      clear hg4 hg5 hown
      go_wp2_with fail
      go_ret
      exact ⟨rfl, hbel⟩
end Go.Proofs.YtnhaejbakgjelaaDoor
