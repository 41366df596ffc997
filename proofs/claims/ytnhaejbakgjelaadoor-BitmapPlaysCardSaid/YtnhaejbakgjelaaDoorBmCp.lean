/- The walk of the bitmaps' Copy; Put, Drop, Fill, Clear with whatever answer. -/
import Derived.Test.YtnhaejbakgjelaaDoorBmS
import Derived.Laws.CopyOwn
namespace Go.Proofs.YtnhaejbakgjelaaDoor
open Go.RowKit

theorem size_is (w : World) (o : Obj) : (w.alloc o).heap.size = w.heap.size + 1 := by simp
set_option maxRecDepth 20000 in
theorem copy_c (g c n : Nat) (f : Nat → Bool) (w : World) (h : MapAt w g c n f) :
    Calls Tryd.prog 28 #[.pointer (some ⟨g, 0, none⟩)] w fun e w' =>
      ∃ g', e = .returned (.pointer (some ⟨g', 0, none⟩)) ∧ MapAt w' g' w.heap.size n f ∧ w.heap.size ≤ g' ∧ Below w.heap.size w w' := by
  have hs := h.small
  have h0 := h.size
  have h1 := h.words
  have hw : ∀ k, k < (n + 63) / 64 → w.cell? ⟨c, k, none⟩ = some (.int .u64 (W f k : Nat)) := fun k hk => h.word hk
  have HW := Lib.hid hw
  have hgl := h.head.lt
  have hcl := h.row.lt
  have HT := Lib.hid h.top
  clear hw
  have hmk := make_words ((n + 63) / 64) (by omega)
  have hmk2 : ∀ w : World, (Instr.makeSlice 63 (.int .i64 (((n : Int) + 63) / 64)) (.int .i64 (((n : Int) + 63) / 64))).run Tryd.prog w = .ok (.slice (some ⟨w.heap.size, 0, none⟩) ((n + 63) / 64) ((n + 63) / 64)) (w.alloc (.cells (wordsV (fun _ => false) ((n + 63) / 64)).toArray 54)) := by
    rw [show ((n : Int) + 63) / 64 = (((n + 63) / 64 : Nat) : Int) from by omega]; exact hmk
  clear hmk
  have hnew := Blk.new w 54 (wordsV (fun _ => false) ((n + 63) / 64)).toArray
  have hlen : (wordsV f ((n + 63) / 64)).length = (n + 63) / 64 := wordsV_length _ _
  have hlen0 : (wordsV (fun _ => false) ((n + 63) / 64)).length = (n + 63) / 64 := wordsV_length _ _
  have hone : ∀ v ∈ wordsV f ((n + 63) / 64), v.oneCell' = true := by
    intro v hv
    simp only [wordsV, List.mem_map] at hv
    obtain ⟨k, _, rfl⟩ := hv
    rfl
  have hcell : ∀ j v, (wordsV f ((n + 63) / 64))[j]? = some v → w.cell? ⟨c, j, none⟩ = some v := by
    intro j v hv
    have hj : j < (n + 63) / 64 := by
      rcases Nat.lt_or_ge j ((n + 63) / 64) with k | k
      · exact k
      · rw [List.getElem?_eq_none (by rw [hlen]; exact k)] at hv; cases hv
    have e : (wordsV f ((n + 63) / 64))[j]? = some (.int .u64 (W f j : Nat)) := by simp [wordsV, hj]
    rw [e] at hv
    cases hv
    exact HW.out j hj
  have HC := Lib.hid hcell
  clear hcell
  have hsp : splice (wordsV (fun _ => false) ((n + 63) / 64)) 0 (wordsV f ((n + 63) / 64)) = wordsV f ((n + 63) / 64) := by
    unfold splice
    rw [List.drop_eq_nil_of_le (by rw [hlen, hlen0]; omega)]
    simp
  go_enter Tryd.func28, Tryd.ntmps28
  go_wp2_with (refine wpList_copy_splice rfl (.tmp 12) (.tmp 16) 63 63 rfl 54 Tryd.underlying63 ?k0 (some ⟨w.heap.size, 0, none⟩) (some ⟨c, 0, none⟩) ((n + 63) / 64) ((n + 63) / 64) ((n + 63) / 64) ((n + 63) / 64) ?k5 ?k6 w.heap.size 0 (wordsV (fun _ => false) ((n + 63) / 64)) 54 hnew (wordsV f ((n + 63) / 64)) ?k1 ?k2 ?k3 hone w.heap.size w ?k4 (Nat.le_refl _) ?_)

  case k0 => kernel_rfl
  case k5 => rfl
  case k6 => rfl
  case k1 => rw [hlen]; exact (Nat.min_self _).symm
  case k2 => exact fun _ => HC.out
  case k3 => rw [hlen, hlen0]; omega
  case k4 => exact bl_alloc (Below.refl _ _) _
  intro w1 HG hb1
  have hblk : Blk w1 w.heap.size 54 (wordsV f ((n + 63) / 64)).toArray := HG.out
  have h' := h.after hb1
  have h0 := h'.size
  have hss := hb1.size
  have hlt := hblk.lt
  have hT := HT.out
  clear HG hnew hone hsp HC HT HW
  go_wp2_with fail
  go_ret
  exact ⟨_, rfl, ⟨Blk.new _ _ _, hblk.alloc _, by omega, hs, hT⟩, by omega, hb1.alloc hss _⟩
end Go.Proofs.YtnhaejbakgjelaaDoor
