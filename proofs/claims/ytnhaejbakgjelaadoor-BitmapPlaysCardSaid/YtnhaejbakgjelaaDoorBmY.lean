/- The walk of the bitmaps' Bytes. -/
import Derived.Test.YtnhaejbakgjelaaDoorBmE
import Derived.Test.YtnhaejbakgjelaaDoorByP
import Derived.Test.YtnhaejbakgjelaaDoorOwn
namespace Go.Proofs.YtnhaejbakgjelaaDoor
open Go.RowKit

theorem hdr_small {n : Nat} (h : n ≤ 65536) : hdr n = [(n : Int) / 16777216, (n : Int) / 65536, (n : Int) / 256 % 256, (n : Int) % 256] := by
  unfold hdr
  simp only [List.cons.injEq, and_true]
  refine ⟨by omega, by omega, by omega, by omega⟩
set_option maxRecDepth 20000 in
theorem bytes_c (g c n : Nat) (f : Nat → Bool) (w : World) (h : MapAt w g c n f) :
    Calls Tryd.prog 18 #[.pointer (some ⟨g, 0, none⟩)] w fun e w' => e = .returned (.string (strOfNums (bytesOf f n))) ∧ Below w.heap.size w w' := by
  have h0 := h.size
  have h1 := h.words
  have hs := h.small
  obtain ⟨i0, hi0, hz0, hz1, hz2⟩ := info_parts info_u8
  go_enter Tryd.func18, Tryd.ntmps18
  go_wp2_with fail
  go_still_tail 23, (by kernel_rfl)
  change wpList _ _ _ _ _ w.drew
  have h2 := h.drew
  have hbw : Below w.heap.size w w.drew := bl_drew (Below.refl _ _)
  clear h h0 h1
  generalize w.drew = w2 at *
  have h0 := h2.size
  have h1 := h2.words
  have hown0 : (w2.alloc (.cells (bytesV (hdr n)).toArray 5)).ownsRow w2.heap.size 5 1 (.slice (some ⟨w2.heap.size, 0, none⟩) 4 4) 4 (bytesV (hdr n)) := own_laid w2 (hdr n) (by simp [hdr, maxLen]) w2.heap.size (Nat.le_refl _)
  rw [hdr_small hs] at hown0
  go_wp2_with fail
  go_loopw [3, 4] (fun b i wr => ∃ t : Nat, t ≤ (n + 7) / 8 ∧ i = .int .i64 (8 * t : Nat) ∧ wr.ownsRow w2.heap.size 5 1 b (4 + t) (bytesV (hdr n ++ body f t)) ∧ Below w2.heap.size w2 wr) (fun _ i _ => n + 8 - (intOf i).toNat)
  case atStart => exact ⟨0, by omega, rfl, by rw [show body f 0 = [] from rfl, List.append_nil, hdr_small hs]; exact hown0, bl_alloc (Below.refl _ _) _⟩
  case round =>
    obtain ⟨t, ht, rfl, hown, hbel⟩ := hrel
    have h3 := h2.after hbel
    have q0 := h3.size
    have q1 := h3.words
    clear hown0
    by_cases hlt : 8 * t < n
    · have q2 := h3.word (k := 8 * t / 64) (by omega)
      have e1 := byte_word f t
      have hz := hbel.size
      have d1 : ((8 * t : Nat) : Int) < n := by omega
      have hbo : (hdr n ++ body f (t + 1)) = hdr n ++ body f t ++ [((by8 f (8 * t) : Nat) : Int)] := by rw [body_succ, List.append_assoc]
      have HBO := Lib.hid hbo
      clear hbo
      go_wp2_with (at_builtin; refine wpList_append_own _ rfl _ _ 72 rfl w2.heap.size 5 i0 (.int .u8 0) 1 1 Tryd.underlying72 hi0 hz0 hz1 hz2 rfl (by decide) _ _ _ rfl (hown.alloc _) ⟨wr.heap.size, 0, none⟩ 1 1 [.int .u8 ((by8 f (8 * t) : Nat) : Int)] rfl rfl ?c1 ?c2 ?c3 ?c4 ?c5 ?_)
      case c1 => exact cell_one _ _ _
      case c2 => exact one_cell_k _ _
      case c3 => simp only [maxLen]; omega
      case c4 => omega
      case c5 => simp; omega
      intro v' w1 hown' hgrow _
      have hbel1 := below_own hbel hown (Nat.le_refl _) hgrow
      clear hown hgrow h3 q0 q1 q2 e1
      go_wp2_with fail
      go_roundw
      case rel => exact ⟨t + 1, by omega, by go_num, by rw [HBO.out, bytesV_snoc]; exact hown', hbel1⟩
      case measure => simp [intOf]; omega
    · obtain rfl : t = (n + 7) / 8 := by omega
      obtain ⟨gb, cap, rfl, hg1, hg2, hg3, hg4, hg5⟩ := own_form hown (by omega)
      have hconv := run_convert_bytes_arg (P := Tryd.prog) wr 72 5 Tryd.underlying72 Tryd.underlying5 gb 0 (4 + (n + 7) / 8) cap (bytesOf f n) (bytesOf_length f n) (fun j hj => by
        rw [Nat.zero_add]
        exact hg4 j _ (get_bytes (by rw [show hdr n ++ body f ((n + 7) / 8) = bytesOf f n from rfl, bytesOf_length]; exact hj))) 9 Tryd.underlying9
      have d1 : ¬ ((8 * ((n + 7) / 8) : Nat) : Int) < n := by omega
      clear hg4 hg5 hown
      go_wp2_with fail
      go_ret
      exact ⟨rfl, bl_trans hbw hbel⟩
end Go.Proofs.YtnhaejbakgjelaaDoor
