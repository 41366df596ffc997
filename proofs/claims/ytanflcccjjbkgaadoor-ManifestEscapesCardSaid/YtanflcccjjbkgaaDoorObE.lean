/- Objects: Same. -/
import Derived.Test.YtanflcccjjbkgaaDoorObD
namespace Go.Proofs.YtanflcccjjbkgaaDoor
open Go.RowKit

set_option maxRecDepth 100000 in
set_option maxHeartbeats 1600000 in
theorem same0_c (a b : Ob) (w : World) (hf : flatEq a b = false) :
    Calls Tryd.prog 32 #[ObjV a, ObjV b] w fun e w' => e = .returned (.bool false) ∧ Below w.heap.size w w' := by
  have HF := Lib.hid hf
  clear hf 
  rw [ObjV_eq, ObjV_eq]
  go_enter Tryd.func32, Tryd.ntmps32
  go_upto_region 1 with (fail)
  have hA : Blk ((w.alloc (.cells (ObjC a) 46)).alloc (.cells (ObjC b) 46)) w.heap.size 46 (ObjC a) := Blk.alloc (Blk.new _ _ _) _
  have hB : Blk ((w.alloc (.cells (ObjC a) 46)).alloc (.cells (ObjC b) 46)) (w.heap.size + 1) 46 (ObjC b) := Blk.new' _ _ _ _ (by simp)
  have hbel : Below w.heap.size w ((w.alloc (.cells (ObjC a) 46)).alloc (.cells (ObjC b) 46)) := (by repeat (first | (with_reducible exact Below.refl _ _) | (with_reducible assumption) | (with_reducible refine bl_alloc ?_ _) | (with_reducible refine bl_drew ?_) | (with_reducible refine bl_drewN ?_ _) | (with_reducible refine bl_set ?_ (by first | (simp; done) | (simp; omega)) _) | (with_reducible refine bl_trans ?_ ‹_›)))
  generalize (w.alloc (.cells (ObjC a) 46)).alloc (.cells (ObjC b) 46) = wz at *
  refine wp_region_held_drew (S := fun w' => Blk w' w.heap.size 46 (ObjC a) ∧ Blk w' (w.heap.size + 1) 46 (ObjC b) ∧ Below w.heap.size w w') (by kernel_rfl) ?_ (fun hHeld => ?_)
  · (first | exact ⟨hHeld.1.after hb1, hHeld.2.1.after hb1, bl_trans hHeld.2.2 hb1⟩ | exact ⟨(by repeat (first | (with_reducible assumption) | (with_reducible refine blk_fill (u := .int .u64 0) (v := .int .u64 0) ?_) | (with_reducible refine Blk.drew ?_) | (with_reducible refine Blk.new' _ _ _ _ (by first | (with_reducible rfl) | (simp; done))) | (with_reducible refine Blk.alloc ?_ _) | (with_reducible refine Blk.after ?_ ‹_›) | (with_reducible refine Blk.far ?_ (by first | (simp; done) | (simp; omega)) _))), (by repeat (first | (with_reducible assumption) | (with_reducible refine blk_fill (u := .int .u64 0) (v := .int .u64 0) ?_) | (with_reducible refine Blk.drew ?_) | (with_reducible refine Blk.new' _ _ _ _ (by first | (with_reducible rfl) | (simp; done))) | (with_reducible refine Blk.alloc ?_ _) | (with_reducible refine Blk.after ?_ ‹_›) | (with_reducible refine Blk.far ?_ (by first | (simp; done) | (simp; omega)) _))), (by repeat (first | (with_reducible exact Below.refl _ _) | (with_reducible assumption) | (with_reducible refine bl_alloc ?_ _) | (with_reducible refine bl_drew ?_) | (with_reducible refine bl_drewN ?_ _) | (with_reducible refine bl_set ?_ (by first | (simp; done) | (simp; omega)) _) | (with_reducible refine bl_trans ?_ ‹_›)))⟩)
  refine take_q (i := 0) (v := _) rfl (by kernel_rfl) (by kernel_rfl) (by kernel_rfl) (fun _ _ _ h => h) (Or.inl ⟨by rfl, fun w hSw => load_obj rfl rfl hSw.1 rfl⟩) (by assumption) ?_
  try simp only [Act.put, List.setIfInBounds_toArray, List.set_cons_zero, List.set_cons_succ]
  refine take_q (i := 2) (v := _) rfl (by kernel_rfl) (by kernel_rfl) (by kernel_rfl) (fun _ _ _ h => h) (Or.inl ⟨by rfl, fun w hSw => load_obj rfl rfl hSw.2.1 rfl⟩) (by assumption) ?_
  try simp only [Act.put, List.setIfInBounds_toArray, List.set_cons_zero, List.set_cons_succ]
  refine wpAnyH_ready (rs := [1]) (by kernel_rfl) (by simp) ?_
  refine cons_q rfl (fun K hK => ?_) AllReadyH.nil
  go_simp
  refine (flatten_c a _).mono ?_; rintro e w1 ⟨rfl, hb1⟩
  refine hK.out _ _ ?_ (fun hHeld => ?_)
  · (first | exact ⟨hHeld.1.after hb1, hHeld.2.1.after hb1, bl_trans hHeld.2.2 hb1⟩ | exact ⟨(by repeat (first | (with_reducible assumption) | (with_reducible refine blk_fill (u := .int .u64 0) (v := .int .u64 0) ?_) | (with_reducible refine Blk.drew ?_) | (with_reducible refine Blk.new' _ _ _ _ (by first | (with_reducible rfl) | (simp; done))) | (with_reducible refine Blk.alloc ?_ _) | (with_reducible refine Blk.after ?_ ‹_›) | (with_reducible refine Blk.far ?_ (by first | (simp; done) | (simp; omega)) _))), (by repeat (first | (with_reducible assumption) | (with_reducible refine blk_fill (u := .int .u64 0) (v := .int .u64 0) ?_) | (with_reducible refine Blk.drew ?_) | (with_reducible refine Blk.new' _ _ _ _ (by first | (with_reducible rfl) | (simp; done))) | (with_reducible refine Blk.alloc ?_ _) | (with_reducible refine Blk.after ?_ ‹_›) | (with_reducible refine Blk.far ?_ (by first | (simp; done) | (simp; omega)) _))), (by repeat (first | (with_reducible exact Below.refl _ _) | (with_reducible assumption) | (with_reducible refine bl_alloc ?_ _) | (with_reducible refine bl_drew ?_) | (with_reducible refine bl_drewN ?_ _) | (with_reducible refine bl_set ?_ (by first | (simp; done) | (simp; omega)) _) | (with_reducible refine bl_trans ?_ ‹_›)))⟩)
  clear hK K
  try simp only [Act.put, List.setIfInBounds_toArray, List.set_cons_zero, List.set_cons_succ]
  refine wpAnyH_ready (rs := [3]) (by kernel_rfl) (by simp) ?_
  refine cons_q rfl (fun K hK => ?_) AllReadyH.nil
  go_simp
  refine (flatten_c b _).mono ?_; rintro e w1 ⟨rfl, hb1⟩
  refine hK.out _ _ ?_ (fun hHeld => ?_)
  · (first | exact ⟨hHeld.1.after hb1, hHeld.2.1.after hb1, bl_trans hHeld.2.2 hb1⟩ | exact ⟨(by repeat (first | (with_reducible assumption) | (with_reducible refine blk_fill (u := .int .u64 0) (v := .int .u64 0) ?_) | (with_reducible refine Blk.drew ?_) | (with_reducible refine Blk.new' _ _ _ _ (by first | (with_reducible rfl) | (simp; done))) | (with_reducible refine Blk.alloc ?_ _) | (with_reducible refine Blk.after ?_ ‹_›) | (with_reducible refine Blk.far ?_ (by first | (simp; done) | (simp; omega)) _))), (by repeat (first | (with_reducible assumption) | (with_reducible refine blk_fill (u := .int .u64 0) (v := .int .u64 0) ?_) | (with_reducible refine Blk.drew ?_) | (with_reducible refine Blk.new' _ _ _ _ (by first | (with_reducible rfl) | (simp; done))) | (with_reducible refine Blk.alloc ?_ _) | (with_reducible refine Blk.after ?_ ‹_›) | (with_reducible refine Blk.far ?_ (by first | (simp; done) | (simp; omega)) _))), (by repeat (first | (with_reducible exact Below.refl _ _) | (with_reducible assumption) | (with_reducible refine bl_alloc ?_ _) | (with_reducible refine bl_drew ?_) | (with_reducible refine bl_drewN ?_ _) | (with_reducible refine bl_set ?_ (by first | (simp; done) | (simp; omega)) _) | (with_reducible refine bl_trans ?_ ‹_›)))⟩)
  clear hK K
  try simp only [Act.put, List.setIfInBounds_toArray, List.set_cons_zero, List.set_cons_succ]
  refine take_q (i := 4) (v := .bool false) rfl (by kernel_rfl) (by kernel_rfl) (by kernel_rfl) (fun _ _ _ h => h) (Or.inl ⟨by rfl, fun w hSw => by rw [← HF.out]; exact eql_flat rfl rfl rfl⟩) (by assumption) ?_
  try simp only [Act.put, List.setIfInBounds_toArray, List.set_cons_zero, List.set_cons_succ]
  refine take_q (i := 5) (v := ?_) rfl (by kernel_rfl) (by kernel_rfl) (by kernel_rfl) (fun _ _ _ h => h) (Or.inl ⟨by rfl, ?_⟩) (by assumption) ?_
  rotate_left
  · intro w hSw; (try dsimp only at hSw); go_simp; try with_reducible rfl
  try simp only [Act.put, List.setIfInBounds_toArray, List.set_cons_zero, List.set_cons_succ]
  refine take_q (i := 6) (v := undef) rfl (by kernel_rfl) (by kernel_rfl) (by kernel_rfl) (fun _ _ _ h => h) (Or.inr ⟨by rfl, rfl⟩) (by assumption) ?_
  try simp only [Act.put, List.setIfInBounds_toArray, List.set_cons_zero, List.set_cons_succ]
  refine take_q (i := 7) (v := undef) rfl (by kernel_rfl) (by kernel_rfl) (by kernel_rfl) (fun _ _ _ h => h) (Or.inr ⟨by rfl, rfl⟩) (by assumption) ?_
  try simp only [Act.put, List.setIfInBounds_toArray, List.set_cons_zero, List.set_cons_succ]
  refine take_q (i := 8) (v := undef) rfl (by kernel_rfl) (by kernel_rfl) (by kernel_rfl) (fun _ _ _ h => h) (Or.inr ⟨by rfl, rfl⟩) (by assumption) ?_
  try simp only [Act.put, List.setIfInBounds_toArray, List.set_cons_zero, List.set_cons_succ]
  refine take_q (i := 9) (v := undef) rfl (by kernel_rfl) (by kernel_rfl) (by kernel_rfl) (fun _ _ _ h => h) (Or.inr ⟨by rfl, rfl⟩) (by assumption) ?_
  try simp only [Act.put, List.setIfInBounds_toArray, List.set_cons_zero, List.set_cons_succ]
  refine take_q (i := 10) (v := undef) rfl (by kernel_rfl) (by kernel_rfl) (by kernel_rfl) (fun _ _ _ h => h) (Or.inr ⟨by rfl, rfl⟩) (by assumption) ?_
  try simp only [Act.put, List.setIfInBounds_toArray, List.set_cons_zero, List.set_cons_succ]
  refine take_q (i := 11) (v := ?_) rfl (by kernel_rfl) (by kernel_rfl) (by kernel_rfl) (fun _ _ _ h => h) (Or.inl ⟨by rfl, ?_⟩) (by assumption) ?_
  rotate_left
  · intro w hSw; (try dsimp only at hSw); go_simp; try with_reducible rfl
  try simp only [Act.put, List.setIfInBounds_toArray, List.set_cons_zero, List.set_cons_succ]
  refine take_q (i := 12) (v := ?_) rfl (by kernel_rfl) (by kernel_rfl) (by kernel_rfl) (fun _ _ _ h => h) (Or.inl ⟨by rfl, ?_⟩) (by assumption) ?_
  rotate_left
  · intro w hSw; (try dsimp only at hSw); go_simp; try with_reducible rfl
  try simp only [Act.put, List.setIfInBounds_toArray, List.set_cons_zero, List.set_cons_succ]
  refine take_q (i := 13) (v := undef) rfl (by kernel_rfl) (by kernel_rfl) (by kernel_rfl) (fun _ _ _ h => h) (Or.inr ⟨by rfl, rfl⟩) (by assumption) ?_
  try simp only [Act.put, List.setIfInBounds_toArray, List.set_cons_zero, List.set_cons_succ]
  refine take_q (i := 14) (v := undef) rfl (by kernel_rfl) (by kernel_rfl) (by kernel_rfl) (fun _ _ _ h => h) (Or.inr ⟨by rfl, rfl⟩) (by assumption) ?_
  try simp only [Act.put, List.setIfInBounds_toArray, List.set_cons_zero, List.set_cons_succ]
  refine take_q (i := 15) (v := undef) rfl (by kernel_rfl) (by kernel_rfl) (by kernel_rfl) (fun _ _ _ h => h) (Or.inr ⟨by rfl, rfl⟩) (by assumption) ?_
  try simp only [Act.put, List.setIfInBounds_toArray, List.set_cons_zero, List.set_cons_succ]
  refine take_q (i := 16) (v := undef) rfl (by kernel_rfl) (by kernel_rfl) (by kernel_rfl) (fun _ _ _ h => h) (Or.inr ⟨by rfl, rfl⟩) (by assumption) ?_
  try simp only [Act.put, List.setIfInBounds_toArray, List.set_cons_zero, List.set_cons_succ]
  refine take_q (i := 17) (v := undef) rfl (by kernel_rfl) (by kernel_rfl) (by kernel_rfl) (fun _ _ _ h => h) (Or.inr ⟨by rfl, rfl⟩) (by assumption) ?_
  try simp only [Act.put, List.setIfInBounds_toArray, List.set_cons_zero, List.set_cons_succ]
  refine take_q (i := 18) (v := ?_) rfl (by kernel_rfl) (by kernel_rfl) (by kernel_rfl) (fun _ _ _ h => h) (Or.inl ⟨by rfl, ?_⟩) (by assumption) ?_
  rotate_left
  · intro w hSw; (try dsimp only at hSw); go_simp; try with_reducible rfl
  try simp only [Act.put, List.setIfInBounds_toArray, List.set_cons_zero, List.set_cons_succ]
  refine take_q (i := 19) (v := ?_) rfl (by kernel_rfl) (by kernel_rfl) (by kernel_rfl) (fun _ _ _ h => h) (Or.inl ⟨by rfl, ?_⟩) (by assumption) ?_
  rotate_left
  · intro w hSw; (try dsimp only at hSw); go_simp; try with_reducible rfl
  try simp only [Act.put, List.setIfInBounds_toArray, List.set_cons_zero, List.set_cons_succ]
  refine take_q (i := 20) (v := undef) rfl (by kernel_rfl) (by kernel_rfl) (by kernel_rfl) (fun _ _ _ h => h) (Or.inr ⟨by rfl, rfl⟩) (by assumption) ?_
  try simp only [Act.put, List.setIfInBounds_toArray, List.set_cons_zero, List.set_cons_succ]
  refine take_q (i := 21) (v := undef) rfl (by kernel_rfl) (by kernel_rfl) (by kernel_rfl) (fun _ _ _ h => h) (Or.inr ⟨by rfl, rfl⟩) (by assumption) ?_
  try simp only [Act.put, List.setIfInBounds_toArray, List.set_cons_zero, List.set_cons_succ]
  refine take_q (i := 22) (v := undef) rfl (by kernel_rfl) (by kernel_rfl) (by kernel_rfl) (fun _ _ _ h => h) (Or.inr ⟨by rfl, rfl⟩) (by assumption) ?_
  try simp only [Act.put, List.setIfInBounds_toArray, List.set_cons_zero, List.set_cons_succ]
  refine take_q (i := 23) (v := undef) rfl (by kernel_rfl) (by kernel_rfl) (by kernel_rfl) (fun _ _ _ h => h) (Or.inr ⟨by rfl, rfl⟩) (by assumption) ?_
  try simp only [Act.put, List.setIfInBounds_toArray, List.set_cons_zero, List.set_cons_succ]
  refine take_q (i := 24) (v := undef) rfl (by kernel_rfl) (by kernel_rfl) (by kernel_rfl) (fun _ _ _ h => h) (Or.inr ⟨by rfl, rfl⟩) (by assumption) ?_
  try simp only [Act.put, List.setIfInBounds_toArray, List.set_cons_zero, List.set_cons_succ]
  refine take_q (i := 25) (v := ?_) rfl (by kernel_rfl) (by kernel_rfl) (by kernel_rfl) (fun _ _ _ h => h) (Or.inl ⟨by rfl, ?_⟩) (by assumption) ?_
  rotate_left
  · intro w hSw; (try dsimp only at hSw); go_simp; try with_reducible rfl
  try simp only [Act.put, List.setIfInBounds_toArray, List.set_cons_zero, List.set_cons_succ]
  refine take_q (i := 26) (v := ?_) rfl (by kernel_rfl) (by kernel_rfl) (by kernel_rfl) (fun _ _ _ h => h) (Or.inl ⟨by rfl, ?_⟩) (by assumption) ?_
  rotate_left
  · intro w hSw; (try dsimp only at hSw); go_simp; try with_reducible rfl
  try simp only [Act.put, List.setIfInBounds_toArray, List.set_cons_zero, List.set_cons_succ]
  refine take_q (i := 27) (v := undef) rfl (by kernel_rfl) (by kernel_rfl) (by kernel_rfl) (fun _ _ _ h => h) (Or.inr ⟨by rfl, rfl⟩) (by assumption) ?_
  try simp only [Act.put, List.setIfInBounds_toArray, List.set_cons_zero, List.set_cons_succ]
  refine take_q (i := 28) (v := undef) rfl (by kernel_rfl) (by kernel_rfl) (by kernel_rfl) (fun _ _ _ h => h) (Or.inr ⟨by rfl, rfl⟩) (by assumption) ?_
  try simp only [Act.put, List.setIfInBounds_toArray, List.set_cons_zero, List.set_cons_succ]
  refine take_q (i := 29) (v := undef) rfl (by kernel_rfl) (by kernel_rfl) (by kernel_rfl) (fun _ _ _ h => h) (Or.inr ⟨by rfl, rfl⟩) (by assumption) ?_
  try simp only [Act.put, List.setIfInBounds_toArray, List.set_cons_zero, List.set_cons_succ]
  refine take_q (i := 30) (v := undef) rfl (by kernel_rfl) (by kernel_rfl) (by kernel_rfl) (fun _ _ _ h => h) (Or.inr ⟨by rfl, rfl⟩) (by assumption) ?_
  try simp only [Act.put, List.setIfInBounds_toArray, List.set_cons_zero, List.set_cons_succ]
  refine take_q (i := 31) (v := undef) rfl (by kernel_rfl) (by kernel_rfl) (by kernel_rfl) (fun _ _ _ h => h) (Or.inr ⟨by rfl, rfl⟩) (by assumption) ?_
  try simp only [Act.put, List.setIfInBounds_toArray, List.set_cons_zero, List.set_cons_succ]
  refine take_q (i := 32) (v := ?_) rfl (by kernel_rfl) (by kernel_rfl) (by kernel_rfl) (fun _ _ _ h => h) (Or.inl ⟨by rfl, ?_⟩) (by assumption) ?_
  rotate_left
  · intro w hSw; (try dsimp only at hSw); go_simp; try with_reducible rfl
  try simp only [Act.put, List.setIfInBounds_toArray, List.set_cons_zero, List.set_cons_succ]
  refine take_q (i := 33) (v := ?_) rfl (by kernel_rfl) (by kernel_rfl) (by kernel_rfl) (fun _ _ _ h => h) (Or.inl ⟨by rfl, ?_⟩) (by assumption) ?_
  rotate_left
  · intro w hSw; (try dsimp only at hSw); go_simp; try with_reducible rfl
  try simp only [Act.put, List.setIfInBounds_toArray, List.set_cons_zero, List.set_cons_succ]
  refine take_q (i := 34) (v := undef) rfl (by kernel_rfl) (by kernel_rfl) (by kernel_rfl) (fun _ _ _ h => h) (Or.inr ⟨by rfl, rfl⟩) (by assumption) ?_
  try simp only [Act.put, List.setIfInBounds_toArray, List.set_cons_zero, List.set_cons_succ]
  refine take_q (i := 35) (v := undef) rfl (by kernel_rfl) (by kernel_rfl) (by kernel_rfl) (fun _ _ _ h => h) (Or.inr ⟨by rfl, rfl⟩) (by assumption) ?_
  try simp only [Act.put, List.setIfInBounds_toArray, List.set_cons_zero, List.set_cons_succ]
  refine take_q (i := 36) (v := undef) rfl (by kernel_rfl) (by kernel_rfl) (by kernel_rfl) (fun _ _ _ h => h) (Or.inr ⟨by rfl, rfl⟩) (by assumption) ?_
  try simp only [Act.put, List.setIfInBounds_toArray, List.set_cons_zero, List.set_cons_succ]
  refine take_q (i := 37) (v := undef) rfl (by kernel_rfl) (by kernel_rfl) (by kernel_rfl) (fun _ _ _ h => h) (Or.inr ⟨by rfl, rfl⟩) (by assumption) ?_
  try simp only [Act.put, List.setIfInBounds_toArray, List.set_cons_zero, List.set_cons_succ]
  refine take_q (i := 38) (v := undef) rfl (by kernel_rfl) (by kernel_rfl) (by kernel_rfl) (fun _ _ _ h => h) (Or.inr ⟨by rfl, rfl⟩) (by assumption) ?_
  try simp only [Act.put, List.setIfInBounds_toArray, List.set_cons_zero, List.set_cons_succ]
  refine take_q (i := 39) (v := ?_) rfl (by kernel_rfl) (by kernel_rfl) (by kernel_rfl) (fun _ _ _ h => h) (Or.inl ⟨by rfl, ?_⟩) (by assumption) ?_
  rotate_left
  · intro w hSw; (try dsimp only at hSw); go_simp; try with_reducible rfl
  try simp only [Act.put, List.setIfInBounds_toArray, List.set_cons_zero, List.set_cons_succ]
  refine take_q (i := 40) (v := ?_) rfl (by kernel_rfl) (by kernel_rfl) (by kernel_rfl) (fun _ _ _ h => h) (Or.inl ⟨by rfl, ?_⟩) (by assumption) ?_
  rotate_left
  · intro w hSw; (try dsimp only at hSw); go_simp; try with_reducible rfl
  try simp only [Act.put, List.setIfInBounds_toArray, List.set_cons_zero, List.set_cons_succ]
  refine wpAnyH_done (by kernel_rfl) ?_ _
  go_wp2_with fail
  go_ret
  exact ⟨rfl, hHeld.2.2⟩
set_option maxRecDepth 100000 in
set_option maxHeartbeats 1600000 in
theorem same1_c (a b : Ob) (w : World) (hf : flatEq a b = true)
    (h0 : ∀ w', Below w.heap.size w w' → Calls Tryd.prog 63 #[.slice a.fin.a a.fin.n a.fin.c, .slice b.fin.a b.fin.n b.fin.c] w' fun e w'' => e = .returned (.bool false) ∧ Below w'.heap.size w' w'') :
    Calls Tryd.prog 32 #[ObjV a, ObjV b] w fun e w' => e = .returned (.bool false) ∧ Below w.heap.size w w' := by
  have HF := Lib.hid hf
  have H0 := Lib.hid h0
  clear hf h0
  rw [ObjV_eq, ObjV_eq]
  go_enter Tryd.func32, Tryd.ntmps32
  go_upto_region 1 with (fail)
  have hA : Blk ((w.alloc (.cells (ObjC a) 46)).alloc (.cells (ObjC b) 46)) w.heap.size 46 (ObjC a) := Blk.alloc (Blk.new _ _ _) _
  have hB : Blk ((w.alloc (.cells (ObjC a) 46)).alloc (.cells (ObjC b) 46)) (w.heap.size + 1) 46 (ObjC b) := Blk.new' _ _ _ _ (by simp)
  have hbel : Below w.heap.size w ((w.alloc (.cells (ObjC a) 46)).alloc (.cells (ObjC b) 46)) := (by repeat (first | (with_reducible exact Below.refl _ _) | (with_reducible assumption) | (with_reducible refine bl_alloc ?_ _) | (with_reducible refine bl_drew ?_) | (with_reducible refine bl_drewN ?_ _) | (with_reducible refine bl_set ?_ (by first | (simp; done) | (simp; omega)) _) | (with_reducible refine bl_trans ?_ ‹_›)))
  generalize (w.alloc (.cells (ObjC a) 46)).alloc (.cells (ObjC b) 46) = wz at *
  refine wp_region_held_drew (S := fun w' => Blk w' w.heap.size 46 (ObjC a) ∧ Blk w' (w.heap.size + 1) 46 (ObjC b) ∧ Below w.heap.size w w') (by kernel_rfl) ?_ (fun hHeld => ?_)
  · (first | exact ⟨hHeld.1.after hb1, hHeld.2.1.after hb1, bl_trans hHeld.2.2 hb1⟩ | exact ⟨(by repeat (first | (with_reducible assumption) | (with_reducible refine blk_fill (u := .int .u64 0) (v := .int .u64 0) ?_) | (with_reducible refine Blk.drew ?_) | (with_reducible refine Blk.new' _ _ _ _ (by first | (with_reducible rfl) | (simp; done))) | (with_reducible refine Blk.alloc ?_ _) | (with_reducible refine Blk.after ?_ ‹_›) | (with_reducible refine Blk.far ?_ (by first | (simp; done) | (simp; omega)) _))), (by repeat (first | (with_reducible assumption) | (with_reducible refine blk_fill (u := .int .u64 0) (v := .int .u64 0) ?_) | (with_reducible refine Blk.drew ?_) | (with_reducible refine Blk.new' _ _ _ _ (by first | (with_reducible rfl) | (simp; done))) | (with_reducible refine Blk.alloc ?_ _) | (with_reducible refine Blk.after ?_ ‹_›) | (with_reducible refine Blk.far ?_ (by first | (simp; done) | (simp; omega)) _))), (by repeat (first | (with_reducible exact Below.refl _ _) | (with_reducible assumption) | (with_reducible refine bl_alloc ?_ _) | (with_reducible refine bl_drew ?_) | (with_reducible refine bl_drewN ?_ _) | (with_reducible refine bl_set ?_ (by first | (simp; done) | (simp; omega)) _) | (with_reducible refine bl_trans ?_ ‹_›)))⟩)
  refine take_q (i := 0) (v := _) rfl (by kernel_rfl) (by kernel_rfl) (by kernel_rfl) (fun _ _ _ h => h) (Or.inl ⟨by rfl, fun w hSw => load_obj rfl rfl hSw.1 rfl⟩) (by assumption) ?_
  try simp only [Act.put, List.setIfInBounds_toArray, List.set_cons_zero, List.set_cons_succ]
  refine take_q (i := 2) (v := _) rfl (by kernel_rfl) (by kernel_rfl) (by kernel_rfl) (fun _ _ _ h => h) (Or.inl ⟨by rfl, fun w hSw => load_obj rfl rfl hSw.2.1 rfl⟩) (by assumption) ?_
  try simp only [Act.put, List.setIfInBounds_toArray, List.set_cons_zero, List.set_cons_succ]
  refine wpAnyH_ready (rs := [1]) (by kernel_rfl) (by simp) ?_
  refine cons_q rfl (fun K hK => ?_) AllReadyH.nil
  go_simp
  refine (flatten_c a _).mono ?_; rintro e w1 ⟨rfl, hb1⟩
  refine hK.out _ _ ?_ (fun hHeld => ?_)
  · (first | exact ⟨hHeld.1.after hb1, hHeld.2.1.after hb1, bl_trans hHeld.2.2 hb1⟩ | exact ⟨(by repeat (first | (with_reducible assumption) | (with_reducible refine blk_fill (u := .int .u64 0) (v := .int .u64 0) ?_) | (with_reducible refine Blk.drew ?_) | (with_reducible refine Blk.new' _ _ _ _ (by first | (with_reducible rfl) | (simp; done))) | (with_reducible refine Blk.alloc ?_ _) | (with_reducible refine Blk.after ?_ ‹_›) | (with_reducible refine Blk.far ?_ (by first | (simp; done) | (simp; omega)) _))), (by repeat (first | (with_reducible assumption) | (with_reducible refine blk_fill (u := .int .u64 0) (v := .int .u64 0) ?_) | (with_reducible refine Blk.drew ?_) | (with_reducible refine Blk.new' _ _ _ _ (by first | (with_reducible rfl) | (simp; done))) | (with_reducible refine Blk.alloc ?_ _) | (with_reducible refine Blk.after ?_ ‹_›) | (with_reducible refine Blk.far ?_ (by first | (simp; done) | (simp; omega)) _))), (by repeat (first | (with_reducible exact Below.refl _ _) | (with_reducible assumption) | (with_reducible refine bl_alloc ?_ _) | (with_reducible refine bl_drew ?_) | (with_reducible refine bl_drewN ?_ _) | (with_reducible refine bl_set ?_ (by first | (simp; done) | (simp; omega)) _) | (with_reducible refine bl_trans ?_ ‹_›)))⟩)
  clear hK K
  try simp only [Act.put, List.setIfInBounds_toArray, List.set_cons_zero, List.set_cons_succ]
  refine wpAnyH_ready (rs := [3]) (by kernel_rfl) (by simp) ?_
  refine cons_q rfl (fun K hK => ?_) AllReadyH.nil
  go_simp
  refine (flatten_c b _).mono ?_; rintro e w1 ⟨rfl, hb1⟩
  refine hK.out _ _ ?_ (fun hHeld => ?_)
  · (first | exact ⟨hHeld.1.after hb1, hHeld.2.1.after hb1, bl_trans hHeld.2.2 hb1⟩ | exact ⟨(by repeat (first | (with_reducible assumption) | (with_reducible refine blk_fill (u := .int .u64 0) (v := .int .u64 0) ?_) | (with_reducible refine Blk.drew ?_) | (with_reducible refine Blk.new' _ _ _ _ (by first | (with_reducible rfl) | (simp; done))) | (with_reducible refine Blk.alloc ?_ _) | (with_reducible refine Blk.after ?_ ‹_›) | (with_reducible refine Blk.far ?_ (by first | (simp; done) | (simp; omega)) _))), (by repeat (first | (with_reducible assumption) | (with_reducible refine blk_fill (u := .int .u64 0) (v := .int .u64 0) ?_) | (with_reducible refine Blk.drew ?_) | (with_reducible refine Blk.new' _ _ _ _ (by first | (with_reducible rfl) | (simp; done))) | (with_reducible refine Blk.alloc ?_ _) | (with_reducible refine Blk.after ?_ ‹_›) | (with_reducible refine Blk.far ?_ (by first | (simp; done) | (simp; omega)) _))), (by repeat (first | (with_reducible exact Below.refl _ _) | (with_reducible assumption) | (with_reducible refine bl_alloc ?_ _) | (with_reducible refine bl_drew ?_) | (with_reducible refine bl_drewN ?_ _) | (with_reducible refine bl_set ?_ (by first | (simp; done) | (simp; omega)) _) | (with_reducible refine bl_trans ?_ ‹_›)))⟩)
  clear hK K
  try simp only [Act.put, List.setIfInBounds_toArray, List.set_cons_zero, List.set_cons_succ]
  refine take_q (i := 4) (v := .bool true) rfl (by kernel_rfl) (by kernel_rfl) (by kernel_rfl) (fun _ _ _ h => h) (Or.inl ⟨by rfl, fun w hSw => by rw [← HF.out]; exact eql_flat rfl rfl rfl⟩) (by assumption) ?_
  try simp only [Act.put, List.setIfInBounds_toArray, List.set_cons_zero, List.set_cons_succ]
  refine take_q (i := 5) (v := ?_) rfl (by kernel_rfl) (by kernel_rfl) (by kernel_rfl) (fun _ _ _ h => h) (Or.inl ⟨by rfl, ?_⟩) (by assumption) ?_
  rotate_left
  · intro w hSw; (try dsimp only at hSw); go_simp; try with_reducible rfl
  try simp only [Act.put, List.setIfInBounds_toArray, List.set_cons_zero, List.set_cons_succ]
  refine take_q (i := 6) (v := ?_) rfl (by kernel_rfl) (by kernel_rfl) (by kernel_rfl) (fun _ _ _ h => h) (Or.inl ⟨by rfl, ?_⟩) (by assumption) ?_
  rotate_left
  · intro w hSw; (try dsimp only at hSw); go_simp; try with_reducible rfl
  try simp only [Act.put, List.setIfInBounds_toArray, List.set_cons_zero, List.set_cons_succ]
  refine take_q (i := 7) (v := _) rfl (by kernel_rfl) (by kernel_rfl) (by kernel_rfl) (fun _ _ _ h => h) (Or.inl ⟨by rfl, fun w hSw => load_fld (j := 5) rfl rfl hSw.1 rfl Tryd.isAgg42⟩) (by assumption) ?_
  try simp only [Act.put, List.setIfInBounds_toArray, List.set_cons_zero, List.set_cons_succ]
  refine take_q (i := 8) (v := ?_) rfl (by kernel_rfl) (by kernel_rfl) (by kernel_rfl) (fun _ _ _ h => h) (Or.inl ⟨by rfl, ?_⟩) (by assumption) ?_
  rotate_left
  · intro w hSw; (try dsimp only at hSw); go_simp; try with_reducible rfl
  try simp only [Act.put, List.setIfInBounds_toArray, List.set_cons_zero, List.set_cons_succ]
  refine take_q (i := 9) (v := _) rfl (by kernel_rfl) (by kernel_rfl) (by kernel_rfl) (fun _ _ _ h => h) (Or.inl ⟨by rfl, fun w hSw => load_fld (j := 5) rfl rfl hSw.2.1 rfl Tryd.isAgg42⟩) (by assumption) ?_
  try simp only [Act.put, List.setIfInBounds_toArray, List.set_cons_zero, List.set_cons_succ]
  refine wpAnyH_ready (rs := [10]) (by kernel_rfl) (by simp) ?_
  refine cons_q rfl (fun K hK => ?_) AllReadyH.nil
  go_simp
  refine (H0.out _ hHeld.2.2).mono ?_; rintro e w1 ⟨rfl, hb1⟩
  refine hK.out _ _ ?_ (fun hHeld => ?_)
  · (first | exact ⟨hHeld.1.after hb1, hHeld.2.1.after hb1, bl_trans hHeld.2.2 hb1⟩ | exact ⟨(by repeat (first | (with_reducible assumption) | (with_reducible refine blk_fill (u := .int .u64 0) (v := .int .u64 0) ?_) | (with_reducible refine Blk.drew ?_) | (with_reducible refine Blk.new' _ _ _ _ (by first | (with_reducible rfl) | (simp; done))) | (with_reducible refine Blk.alloc ?_ _) | (with_reducible refine Blk.after ?_ ‹_›) | (with_reducible refine Blk.far ?_ (by first | (simp; done) | (simp; omega)) _))), (by repeat (first | (with_reducible assumption) | (with_reducible refine blk_fill (u := .int .u64 0) (v := .int .u64 0) ?_) | (with_reducible refine Blk.drew ?_) | (with_reducible refine Blk.new' _ _ _ _ (by first | (with_reducible rfl) | (simp; done))) | (with_reducible refine Blk.alloc ?_ _) | (with_reducible refine Blk.after ?_ ‹_›) | (with_reducible refine Blk.far ?_ (by first | (simp; done) | (simp; omega)) _))), (by repeat (first | (with_reducible exact Below.refl _ _) | (with_reducible assumption) | (with_reducible refine bl_alloc ?_ _) | (with_reducible refine bl_drew ?_) | (with_reducible refine bl_drewN ?_ _) | (with_reducible refine bl_set ?_ (by first | (simp; done) | (simp; omega)) _) | (with_reducible refine bl_trans ?_ ‹_›)))⟩)
  clear hK K
  try simp only [Act.put, List.setIfInBounds_toArray, List.set_cons_zero, List.set_cons_succ]
  refine take_q (i := 11) (v := ?_) rfl (by kernel_rfl) (by kernel_rfl) (by kernel_rfl) (fun _ _ _ h => h) (Or.inl ⟨by rfl, ?_⟩) (by assumption) ?_
  rotate_left
  · intro w hSw; (try dsimp only at hSw); go_simp; try with_reducible rfl
  try simp only [Act.put, List.setIfInBounds_toArray, List.set_cons_zero, List.set_cons_succ]
  refine take_q (i := 12) (v := ?_) rfl (by kernel_rfl) (by kernel_rfl) (by kernel_rfl) (fun _ _ _ h => h) (Or.inl ⟨by rfl, ?_⟩) (by assumption) ?_
  rotate_left
  · intro w hSw; (try dsimp only at hSw); go_simp; try with_reducible rfl
  try simp only [Act.put, List.setIfInBounds_toArray, List.set_cons_zero, List.set_cons_succ]
  refine take_q (i := 13) (v := undef) rfl (by kernel_rfl) (by kernel_rfl) (by kernel_rfl) (fun _ _ _ h => h) (Or.inr ⟨by rfl, rfl⟩) (by assumption) ?_
  try simp only [Act.put, List.setIfInBounds_toArray, List.set_cons_zero, List.set_cons_succ]
  refine take_q (i := 14) (v := undef) rfl (by kernel_rfl) (by kernel_rfl) (by kernel_rfl) (fun _ _ _ h => h) (Or.inr ⟨by rfl, rfl⟩) (by assumption) ?_
  try simp only [Act.put, List.setIfInBounds_toArray, List.set_cons_zero, List.set_cons_succ]
  refine take_q (i := 15) (v := undef) rfl (by kernel_rfl) (by kernel_rfl) (by kernel_rfl) (fun _ _ _ h => h) (Or.inr ⟨by rfl, rfl⟩) (by assumption) ?_
  try simp only [Act.put, List.setIfInBounds_toArray, List.set_cons_zero, List.set_cons_succ]
  refine take_q (i := 16) (v := undef) rfl (by kernel_rfl) (by kernel_rfl) (by kernel_rfl) (fun _ _ _ h => h) (Or.inr ⟨by rfl, rfl⟩) (by assumption) ?_
  try simp only [Act.put, List.setIfInBounds_toArray, List.set_cons_zero, List.set_cons_succ]
  refine take_q (i := 17) (v := undef) rfl (by kernel_rfl) (by kernel_rfl) (by kernel_rfl) (fun _ _ _ h => h) (Or.inr ⟨by rfl, rfl⟩) (by assumption) ?_
  try simp only [Act.put, List.setIfInBounds_toArray, List.set_cons_zero, List.set_cons_succ]
  refine take_q (i := 18) (v := ?_) rfl (by kernel_rfl) (by kernel_rfl) (by kernel_rfl) (fun _ _ _ h => h) (Or.inl ⟨by rfl, ?_⟩) (by assumption) ?_
  rotate_left
  · intro w hSw; (try dsimp only at hSw); go_simp; try with_reducible rfl
  try simp only [Act.put, List.setIfInBounds_toArray, List.set_cons_zero, List.set_cons_succ]
  refine take_q (i := 19) (v := ?_) rfl (by kernel_rfl) (by kernel_rfl) (by kernel_rfl) (fun _ _ _ h => h) (Or.inl ⟨by rfl, ?_⟩) (by assumption) ?_
  rotate_left
  · intro w hSw; (try dsimp only at hSw); go_simp; try with_reducible rfl
  try simp only [Act.put, List.setIfInBounds_toArray, List.set_cons_zero, List.set_cons_succ]
  refine take_q (i := 20) (v := undef) rfl (by kernel_rfl) (by kernel_rfl) (by kernel_rfl) (fun _ _ _ h => h) (Or.inr ⟨by rfl, rfl⟩) (by assumption) ?_
  try simp only [Act.put, List.setIfInBounds_toArray, List.set_cons_zero, List.set_cons_succ]
  refine take_q (i := 21) (v := undef) rfl (by kernel_rfl) (by kernel_rfl) (by kernel_rfl) (fun _ _ _ h => h) (Or.inr ⟨by rfl, rfl⟩) (by assumption) ?_
  try simp only [Act.put, List.setIfInBounds_toArray, List.set_cons_zero, List.set_cons_succ]
  refine take_q (i := 22) (v := undef) rfl (by kernel_rfl) (by kernel_rfl) (by kernel_rfl) (fun _ _ _ h => h) (Or.inr ⟨by rfl, rfl⟩) (by assumption) ?_
  try simp only [Act.put, List.setIfInBounds_toArray, List.set_cons_zero, List.set_cons_succ]
  refine take_q (i := 23) (v := undef) rfl (by kernel_rfl) (by kernel_rfl) (by kernel_rfl) (fun _ _ _ h => h) (Or.inr ⟨by rfl, rfl⟩) (by assumption) ?_
  try simp only [Act.put, List.setIfInBounds_toArray, List.set_cons_zero, List.set_cons_succ]
  refine take_q (i := 24) (v := undef) rfl (by kernel_rfl) (by kernel_rfl) (by kernel_rfl) (fun _ _ _ h => h) (Or.inr ⟨by rfl, rfl⟩) (by assumption) ?_
  try simp only [Act.put, List.setIfInBounds_toArray, List.set_cons_zero, List.set_cons_succ]
  refine take_q (i := 25) (v := ?_) rfl (by kernel_rfl) (by kernel_rfl) (by kernel_rfl) (fun _ _ _ h => h) (Or.inl ⟨by rfl, ?_⟩) (by assumption) ?_
  rotate_left
  · intro w hSw; (try dsimp only at hSw); go_simp; try with_reducible rfl
  try simp only [Act.put, List.setIfInBounds_toArray, List.set_cons_zero, List.set_cons_succ]
  refine take_q (i := 26) (v := ?_) rfl (by kernel_rfl) (by kernel_rfl) (by kernel_rfl) (fun _ _ _ h => h) (Or.inl ⟨by rfl, ?_⟩) (by assumption) ?_
  rotate_left
  · intro w hSw; (try dsimp only at hSw); go_simp; try with_reducible rfl
  try simp only [Act.put, List.setIfInBounds_toArray, List.set_cons_zero, List.set_cons_succ]
  refine take_q (i := 27) (v := undef) rfl (by kernel_rfl) (by kernel_rfl) (by kernel_rfl) (fun _ _ _ h => h) (Or.inr ⟨by rfl, rfl⟩) (by assumption) ?_
  try simp only [Act.put, List.setIfInBounds_toArray, List.set_cons_zero, List.set_cons_succ]
  refine take_q (i := 28) (v := undef) rfl (by kernel_rfl) (by kernel_rfl) (by kernel_rfl) (fun _ _ _ h => h) (Or.inr ⟨by rfl, rfl⟩) (by assumption) ?_
  try simp only [Act.put, List.setIfInBounds_toArray, List.set_cons_zero, List.set_cons_succ]
  refine take_q (i := 29) (v := undef) rfl (by kernel_rfl) (by kernel_rfl) (by kernel_rfl) (fun _ _ _ h => h) (Or.inr ⟨by rfl, rfl⟩) (by assumption) ?_
  try simp only [Act.put, List.setIfInBounds_toArray, List.set_cons_zero, List.set_cons_succ]
  refine take_q (i := 30) (v := undef) rfl (by kernel_rfl) (by kernel_rfl) (by kernel_rfl) (fun _ _ _ h => h) (Or.inr ⟨by rfl, rfl⟩) (by assumption) ?_
  try simp only [Act.put, List.setIfInBounds_toArray, List.set_cons_zero, List.set_cons_succ]
  refine take_q (i := 31) (v := undef) rfl (by kernel_rfl) (by kernel_rfl) (by kernel_rfl) (fun _ _ _ h => h) (Or.inr ⟨by rfl, rfl⟩) (by assumption) ?_
  try simp only [Act.put, List.setIfInBounds_toArray, List.set_cons_zero, List.set_cons_succ]
  refine take_q (i := 32) (v := ?_) rfl (by kernel_rfl) (by kernel_rfl) (by kernel_rfl) (fun _ _ _ h => h) (Or.inl ⟨by rfl, ?_⟩) (by assumption) ?_
  rotate_left
  · intro w hSw; (try dsimp only at hSw); go_simp; try with_reducible rfl
  try simp only [Act.put, List.setIfInBounds_toArray, List.set_cons_zero, List.set_cons_succ]
  refine take_q (i := 33) (v := ?_) rfl (by kernel_rfl) (by kernel_rfl) (by kernel_rfl) (fun _ _ _ h => h) (Or.inl ⟨by rfl, ?_⟩) (by assumption) ?_
  rotate_left
  · intro w hSw; (try dsimp only at hSw); go_simp; try with_reducible rfl
  try simp only [Act.put, List.setIfInBounds_toArray, List.set_cons_zero, List.set_cons_succ]
  refine take_q (i := 34) (v := undef) rfl (by kernel_rfl) (by kernel_rfl) (by kernel_rfl) (fun _ _ _ h => h) (Or.inr ⟨by rfl, rfl⟩) (by assumption) ?_
  try simp only [Act.put, List.setIfInBounds_toArray, List.set_cons_zero, List.set_cons_succ]
  refine take_q (i := 35) (v := undef) rfl (by kernel_rfl) (by kernel_rfl) (by kernel_rfl) (fun _ _ _ h => h) (Or.inr ⟨by rfl, rfl⟩) (by assumption) ?_
  try simp only [Act.put, List.setIfInBounds_toArray, List.set_cons_zero, List.set_cons_succ]
  refine take_q (i := 36) (v := undef) rfl (by kernel_rfl) (by kernel_rfl) (by kernel_rfl) (fun _ _ _ h => h) (Or.inr ⟨by rfl, rfl⟩) (by assumption) ?_
  try simp only [Act.put, List.setIfInBounds_toArray, List.set_cons_zero, List.set_cons_succ]
  refine take_q (i := 37) (v := undef) rfl (by kernel_rfl) (by kernel_rfl) (by kernel_rfl) (fun _ _ _ h => h) (Or.inr ⟨by rfl, rfl⟩) (by assumption) ?_
  try simp only [Act.put, List.setIfInBounds_toArray, List.set_cons_zero, List.set_cons_succ]
  refine take_q (i := 38) (v := undef) rfl (by kernel_rfl) (by kernel_rfl) (by kernel_rfl) (fun _ _ _ h => h) (Or.inr ⟨by rfl, rfl⟩) (by assumption) ?_
  try simp only [Act.put, List.setIfInBounds_toArray, List.set_cons_zero, List.set_cons_succ]
  refine take_q (i := 39) (v := ?_) rfl (by kernel_rfl) (by kernel_rfl) (by kernel_rfl) (fun _ _ _ h => h) (Or.inl ⟨by rfl, ?_⟩) (by assumption) ?_
  rotate_left
  · intro w hSw; (try dsimp only at hSw); go_simp; try with_reducible rfl
  try simp only [Act.put, List.setIfInBounds_toArray, List.set_cons_zero, List.set_cons_succ]
  refine take_q (i := 40) (v := ?_) rfl (by kernel_rfl) (by kernel_rfl) (by kernel_rfl) (fun _ _ _ h => h) (Or.inl ⟨by rfl, ?_⟩) (by assumption) ?_
  rotate_left
  · intro w hSw; (try dsimp only at hSw); go_simp; try with_reducible rfl
  try simp only [Act.put, List.setIfInBounds_toArray, List.set_cons_zero, List.set_cons_succ]
  refine wpAnyH_done (by kernel_rfl) ?_ _
  go_wp2_with fail
  go_ret
  exact ⟨rfl, hHeld.2.2⟩
set_option maxRecDepth 100000 in
set_option maxHeartbeats 1600000 in
theorem same2_c (a b : Ob) (w : World) (hf : flatEq a b = true)
    (h0 : ∀ w', Below w.heap.size w w' → Calls Tryd.prog 63 #[.slice a.fin.a a.fin.n a.fin.c, .slice b.fin.a b.fin.n b.fin.c] w' fun e w'' => e = .returned (.bool true) ∧ Below w'.heap.size w' w'')
    (h1 : ∀ w', Below w.heap.size w w' → Calls Tryd.prog 64 #[.slice a.lab.a a.lab.n a.lab.c, .slice b.lab.a b.lab.n b.lab.c] w' fun e w'' => e = .returned (.bool false) ∧ Below w'.heap.size w' w'') :
    Calls Tryd.prog 32 #[ObjV a, ObjV b] w fun e w' => e = .returned (.bool false) ∧ Below w.heap.size w w' := by
  have HF := Lib.hid hf
  have H0 := Lib.hid h0
  have H1 := Lib.hid h1
  clear hf h0 h1
  rw [ObjV_eq, ObjV_eq]
  go_enter Tryd.func32, Tryd.ntmps32
  go_upto_region 1 with (fail)
  have hA : Blk ((w.alloc (.cells (ObjC a) 46)).alloc (.cells (ObjC b) 46)) w.heap.size 46 (ObjC a) := Blk.alloc (Blk.new _ _ _) _
  have hB : Blk ((w.alloc (.cells (ObjC a) 46)).alloc (.cells (ObjC b) 46)) (w.heap.size + 1) 46 (ObjC b) := Blk.new' _ _ _ _ (by simp)
  have hbel : Below w.heap.size w ((w.alloc (.cells (ObjC a) 46)).alloc (.cells (ObjC b) 46)) := (by repeat (first | (with_reducible exact Below.refl _ _) | (with_reducible assumption) | (with_reducible refine bl_alloc ?_ _) | (with_reducible refine bl_drew ?_) | (with_reducible refine bl_drewN ?_ _) | (with_reducible refine bl_set ?_ (by first | (simp; done) | (simp; omega)) _) | (with_reducible refine bl_trans ?_ ‹_›)))
  generalize (w.alloc (.cells (ObjC a) 46)).alloc (.cells (ObjC b) 46) = wz at *
  refine wp_region_held_drew (S := fun w' => Blk w' w.heap.size 46 (ObjC a) ∧ Blk w' (w.heap.size + 1) 46 (ObjC b) ∧ Below w.heap.size w w') (by kernel_rfl) ?_ (fun hHeld => ?_)
  · (first | exact ⟨hHeld.1.after hb1, hHeld.2.1.after hb1, bl_trans hHeld.2.2 hb1⟩ | exact ⟨(by repeat (first | (with_reducible assumption) | (with_reducible refine blk_fill (u := .int .u64 0) (v := .int .u64 0) ?_) | (with_reducible refine Blk.drew ?_) | (with_reducible refine Blk.new' _ _ _ _ (by first | (with_reducible rfl) | (simp; done))) | (with_reducible refine Blk.alloc ?_ _) | (with_reducible refine Blk.after ?_ ‹_›) | (with_reducible refine Blk.far ?_ (by first | (simp; done) | (simp; omega)) _))), (by repeat (first | (with_reducible assumption) | (with_reducible refine blk_fill (u := .int .u64 0) (v := .int .u64 0) ?_) | (with_reducible refine Blk.drew ?_) | (with_reducible refine Blk.new' _ _ _ _ (by first | (with_reducible rfl) | (simp; done))) | (with_reducible refine Blk.alloc ?_ _) | (with_reducible refine Blk.after ?_ ‹_›) | (with_reducible refine Blk.far ?_ (by first | (simp; done) | (simp; omega)) _))), (by repeat (first | (with_reducible exact Below.refl _ _) | (with_reducible assumption) | (with_reducible refine bl_alloc ?_ _) | (with_reducible refine bl_drew ?_) | (with_reducible refine bl_drewN ?_ _) | (with_reducible refine bl_set ?_ (by first | (simp; done) | (simp; omega)) _) | (with_reducible refine bl_trans ?_ ‹_›)))⟩)
  refine take_q (i := 0) (v := _) rfl (by kernel_rfl) (by kernel_rfl) (by kernel_rfl) (fun _ _ _ h => h) (Or.inl ⟨by rfl, fun w hSw => load_obj rfl rfl hSw.1 rfl⟩) (by assumption) ?_
  try simp only [Act.put, List.setIfInBounds_toArray, List.set_cons_zero, List.set_cons_succ]
  refine take_q (i := 2) (v := _) rfl (by kernel_rfl) (by kernel_rfl) (by kernel_rfl) (fun _ _ _ h => h) (Or.inl ⟨by rfl, fun w hSw => load_obj rfl rfl hSw.2.1 rfl⟩) (by assumption) ?_
  try simp only [Act.put, List.setIfInBounds_toArray, List.set_cons_zero, List.set_cons_succ]
  refine wpAnyH_ready (rs := [1]) (by kernel_rfl) (by simp) ?_
  refine cons_q rfl (fun K hK => ?_) AllReadyH.nil
  go_simp
  refine (flatten_c a _).mono ?_; rintro e w1 ⟨rfl, hb1⟩
  refine hK.out _ _ ?_ (fun hHeld => ?_)
  · (first | exact ⟨hHeld.1.after hb1, hHeld.2.1.after hb1, bl_trans hHeld.2.2 hb1⟩ | exact ⟨(by repeat (first | (with_reducible assumption) | (with_reducible refine blk_fill (u := .int .u64 0) (v := .int .u64 0) ?_) | (with_reducible refine Blk.drew ?_) | (with_reducible refine Blk.new' _ _ _ _ (by first | (with_reducible rfl) | (simp; done))) | (with_reducible refine Blk.alloc ?_ _) | (with_reducible refine Blk.after ?_ ‹_›) | (with_reducible refine Blk.far ?_ (by first | (simp; done) | (simp; omega)) _))), (by repeat (first | (with_reducible assumption) | (with_reducible refine blk_fill (u := .int .u64 0) (v := .int .u64 0) ?_) | (with_reducible refine Blk.drew ?_) | (with_reducible refine Blk.new' _ _ _ _ (by first | (with_reducible rfl) | (simp; done))) | (with_reducible refine Blk.alloc ?_ _) | (with_reducible refine Blk.after ?_ ‹_›) | (with_reducible refine Blk.far ?_ (by first | (simp; done) | (simp; omega)) _))), (by repeat (first | (with_reducible exact Below.refl _ _) | (with_reducible assumption) | (with_reducible refine bl_alloc ?_ _) | (with_reducible refine bl_drew ?_) | (with_reducible refine bl_drewN ?_ _) | (with_reducible refine bl_set ?_ (by first | (simp; done) | (simp; omega)) _) | (with_reducible refine bl_trans ?_ ‹_›)))⟩)
  clear hK K
  try simp only [Act.put, List.setIfInBounds_toArray, List.set_cons_zero, List.set_cons_succ]
  refine wpAnyH_ready (rs := [3]) (by kernel_rfl) (by simp) ?_
  refine cons_q rfl (fun K hK => ?_) AllReadyH.nil
  go_simp
  refine (flatten_c b _).mono ?_; rintro e w1 ⟨rfl, hb1⟩
  refine hK.out _ _ ?_ (fun hHeld => ?_)
  · (first | exact ⟨hHeld.1.after hb1, hHeld.2.1.after hb1, bl_trans hHeld.2.2 hb1⟩ | exact ⟨(by repeat (first | (with_reducible assumption) | (with_reducible refine blk_fill (u := .int .u64 0) (v := .int .u64 0) ?_) | (with_reducible refine Blk.drew ?_) | (with_reducible refine Blk.new' _ _ _ _ (by first | (with_reducible rfl) | (simp; done))) | (with_reducible refine Blk.alloc ?_ _) | (with_reducible refine Blk.after ?_ ‹_›) | (with_reducible refine Blk.far ?_ (by first | (simp; done) | (simp; omega)) _))), (by repeat (first | (with_reducible assumption) | (with_reducible refine blk_fill (u := .int .u64 0) (v := .int .u64 0) ?_) | (with_reducible refine Blk.drew ?_) | (with_reducible refine Blk.new' _ _ _ _ (by first | (with_reducible rfl) | (simp; done))) | (with_reducible refine Blk.alloc ?_ _) | (with_reducible refine Blk.after ?_ ‹_›) | (with_reducible refine Blk.far ?_ (by first | (simp; done) | (simp; omega)) _))), (by repeat (first | (with_reducible exact Below.refl _ _) | (with_reducible assumption) | (with_reducible refine bl_alloc ?_ _) | (with_reducible refine bl_drew ?_) | (with_reducible refine bl_drewN ?_ _) | (with_reducible refine bl_set ?_ (by first | (simp; done) | (simp; omega)) _) | (with_reducible refine bl_trans ?_ ‹_›)))⟩)
  clear hK K
  try simp only [Act.put, List.setIfInBounds_toArray, List.set_cons_zero, List.set_cons_succ]
  refine take_q (i := 4) (v := .bool true) rfl (by kernel_rfl) (by kernel_rfl) (by kernel_rfl) (fun _ _ _ h => h) (Or.inl ⟨by rfl, fun w hSw => by rw [← HF.out]; exact eql_flat rfl rfl rfl⟩) (by assumption) ?_
  try simp only [Act.put, List.setIfInBounds_toArray, List.set_cons_zero, List.set_cons_succ]
  refine take_q (i := 5) (v := ?_) rfl (by kernel_rfl) (by kernel_rfl) (by kernel_rfl) (fun _ _ _ h => h) (Or.inl ⟨by rfl, ?_⟩) (by assumption) ?_
  rotate_left
  · intro w hSw; (try dsimp only at hSw); go_simp; try with_reducible rfl
  try simp only [Act.put, List.setIfInBounds_toArray, List.set_cons_zero, List.set_cons_succ]
  refine take_q (i := 6) (v := ?_) rfl (by kernel_rfl) (by kernel_rfl) (by kernel_rfl) (fun _ _ _ h => h) (Or.inl ⟨by rfl, ?_⟩) (by assumption) ?_
  rotate_left
  · intro w hSw; (try dsimp only at hSw); go_simp; try with_reducible rfl
  try simp only [Act.put, List.setIfInBounds_toArray, List.set_cons_zero, List.set_cons_succ]
  refine take_q (i := 7) (v := _) rfl (by kernel_rfl) (by kernel_rfl) (by kernel_rfl) (fun _ _ _ h => h) (Or.inl ⟨by rfl, fun w hSw => load_fld (j := 5) rfl rfl hSw.1 rfl Tryd.isAgg42⟩) (by assumption) ?_
  try simp only [Act.put, List.setIfInBounds_toArray, List.set_cons_zero, List.set_cons_succ]
  refine take_q (i := 8) (v := ?_) rfl (by kernel_rfl) (by kernel_rfl) (by kernel_rfl) (fun _ _ _ h => h) (Or.inl ⟨by rfl, ?_⟩) (by assumption) ?_
  rotate_left
  · intro w hSw; (try dsimp only at hSw); go_simp; try with_reducible rfl
  try simp only [Act.put, List.setIfInBounds_toArray, List.set_cons_zero, List.set_cons_succ]
  refine take_q (i := 9) (v := _) rfl (by kernel_rfl) (by kernel_rfl) (by kernel_rfl) (fun _ _ _ h => h) (Or.inl ⟨by rfl, fun w hSw => load_fld (j := 5) rfl rfl hSw.2.1 rfl Tryd.isAgg42⟩) (by assumption) ?_
  try simp only [Act.put, List.setIfInBounds_toArray, List.set_cons_zero, List.set_cons_succ]
  refine wpAnyH_ready (rs := [10]) (by kernel_rfl) (by simp) ?_
  refine cons_q rfl (fun K hK => ?_) AllReadyH.nil
  go_simp
  refine (H0.out _ hHeld.2.2).mono ?_; rintro e w1 ⟨rfl, hb1⟩
  refine hK.out _ _ ?_ (fun hHeld => ?_)
  · (first | exact ⟨hHeld.1.after hb1, hHeld.2.1.after hb1, bl_trans hHeld.2.2 hb1⟩ | exact ⟨(by repeat (first | (with_reducible assumption) | (with_reducible refine blk_fill (u := .int .u64 0) (v := .int .u64 0) ?_) | (with_reducible refine Blk.drew ?_) | (with_reducible refine Blk.new' _ _ _ _ (by first | (with_reducible rfl) | (simp; done))) | (with_reducible refine Blk.alloc ?_ _) | (with_reducible refine Blk.after ?_ ‹_›) | (with_reducible refine Blk.far ?_ (by first | (simp; done) | (simp; omega)) _))), (by repeat (first | (with_reducible assumption) | (with_reducible refine blk_fill (u := .int .u64 0) (v := .int .u64 0) ?_) | (with_reducible refine Blk.drew ?_) | (with_reducible refine Blk.new' _ _ _ _ (by first | (with_reducible rfl) | (simp; done))) | (with_reducible refine Blk.alloc ?_ _) | (with_reducible refine Blk.after ?_ ‹_›) | (with_reducible refine Blk.far ?_ (by first | (simp; done) | (simp; omega)) _))), (by repeat (first | (with_reducible exact Below.refl _ _) | (with_reducible assumption) | (with_reducible refine bl_alloc ?_ _) | (with_reducible refine bl_drew ?_) | (with_reducible refine bl_drewN ?_ _) | (with_reducible refine bl_set ?_ (by first | (simp; done) | (simp; omega)) _) | (with_reducible refine bl_trans ?_ ‹_›)))⟩)
  clear hK K
  try simp only [Act.put, List.setIfInBounds_toArray, List.set_cons_zero, List.set_cons_succ]
  refine take_q (i := 11) (v := ?_) rfl (by kernel_rfl) (by kernel_rfl) (by kernel_rfl) (fun _ _ _ h => h) (Or.inl ⟨by rfl, ?_⟩) (by assumption) ?_
  rotate_left
  · intro w hSw; (try dsimp only at hSw); go_simp; try with_reducible rfl
  try simp only [Act.put, List.setIfInBounds_toArray, List.set_cons_zero, List.set_cons_succ]
  refine take_q (i := 12) (v := ?_) rfl (by kernel_rfl) (by kernel_rfl) (by kernel_rfl) (fun _ _ _ h => h) (Or.inl ⟨by rfl, ?_⟩) (by assumption) ?_
  rotate_left
  · intro w hSw; (try dsimp only at hSw); go_simp; try with_reducible rfl
  try simp only [Act.put, List.setIfInBounds_toArray, List.set_cons_zero, List.set_cons_succ]
  refine take_q (i := 13) (v := ?_) rfl (by kernel_rfl) (by kernel_rfl) (by kernel_rfl) (fun _ _ _ h => h) (Or.inl ⟨by rfl, ?_⟩) (by assumption) ?_
  rotate_left
  · intro w hSw; (try dsimp only at hSw); go_simp; try with_reducible rfl
  try simp only [Act.put, List.setIfInBounds_toArray, List.set_cons_zero, List.set_cons_succ]
  refine take_q (i := 14) (v := _) rfl (by kernel_rfl) (by kernel_rfl) (by kernel_rfl) (fun _ _ _ h => h) (Or.inl ⟨by rfl, fun w hSw => load_fld (j := 6) rfl rfl hSw.1 rfl Tryd.isAgg43⟩) (by assumption) ?_
  try simp only [Act.put, List.setIfInBounds_toArray, List.set_cons_zero, List.set_cons_succ]
  refine take_q (i := 15) (v := ?_) rfl (by kernel_rfl) (by kernel_rfl) (by kernel_rfl) (fun _ _ _ h => h) (Or.inl ⟨by rfl, ?_⟩) (by assumption) ?_
  rotate_left
  · intro w hSw; (try dsimp only at hSw); go_simp; try with_reducible rfl
  try simp only [Act.put, List.setIfInBounds_toArray, List.set_cons_zero, List.set_cons_succ]
  refine take_q (i := 16) (v := _) rfl (by kernel_rfl) (by kernel_rfl) (by kernel_rfl) (fun _ _ _ h => h) (Or.inl ⟨by rfl, fun w hSw => load_fld (j := 6) rfl rfl hSw.2.1 rfl Tryd.isAgg43⟩) (by assumption) ?_
  try simp only [Act.put, List.setIfInBounds_toArray, List.set_cons_zero, List.set_cons_succ]
  refine wpAnyH_ready (rs := [17]) (by kernel_rfl) (by simp) ?_
  refine cons_q rfl (fun K hK => ?_) AllReadyH.nil
  go_simp
  refine (H1.out _ hHeld.2.2).mono ?_; rintro e w1 ⟨rfl, hb1⟩
  refine hK.out _ _ ?_ (fun hHeld => ?_)
  · (first | exact ⟨hHeld.1.after hb1, hHeld.2.1.after hb1, bl_trans hHeld.2.2 hb1⟩ | exact ⟨(by repeat (first | (with_reducible assumption) | (with_reducible refine blk_fill (u := .int .u64 0) (v := .int .u64 0) ?_) | (with_reducible refine Blk.drew ?_) | (with_reducible refine Blk.new' _ _ _ _ (by first | (with_reducible rfl) | (simp; done))) | (with_reducible refine Blk.alloc ?_ _) | (with_reducible refine Blk.after ?_ ‹_›) | (with_reducible refine Blk.far ?_ (by first | (simp; done) | (simp; omega)) _))), (by repeat (first | (with_reducible assumption) | (with_reducible refine blk_fill (u := .int .u64 0) (v := .int .u64 0) ?_) | (with_reducible refine Blk.drew ?_) | (with_reducible refine Blk.new' _ _ _ _ (by first | (with_reducible rfl) | (simp; done))) | (with_reducible refine Blk.alloc ?_ _) | (with_reducible refine Blk.after ?_ ‹_›) | (with_reducible refine Blk.far ?_ (by first | (simp; done) | (simp; omega)) _))), (by repeat (first | (with_reducible exact Below.refl _ _) | (with_reducible assumption) | (with_reducible refine bl_alloc ?_ _) | (with_reducible refine bl_drew ?_) | (with_reducible refine bl_drewN ?_ _) | (with_reducible refine bl_set ?_ (by first | (simp; done) | (simp; omega)) _) | (with_reducible refine bl_trans ?_ ‹_›)))⟩)
  clear hK K
  try simp only [Act.put, List.setIfInBounds_toArray, List.set_cons_zero, List.set_cons_succ]
  refine take_q (i := 18) (v := ?_) rfl (by kernel_rfl) (by kernel_rfl) (by kernel_rfl) (fun _ _ _ h => h) (Or.inl ⟨by rfl, ?_⟩) (by assumption) ?_
  rotate_left
  · intro w hSw; (try dsimp only at hSw); go_simp; try with_reducible rfl
  try simp only [Act.put, List.setIfInBounds_toArray, List.set_cons_zero, List.set_cons_succ]
  refine take_q (i := 19) (v := ?_) rfl (by kernel_rfl) (by kernel_rfl) (by kernel_rfl) (fun _ _ _ h => h) (Or.inl ⟨by rfl, ?_⟩) (by assumption) ?_
  rotate_left
  · intro w hSw; (try dsimp only at hSw); go_simp; try with_reducible rfl
  try simp only [Act.put, List.setIfInBounds_toArray, List.set_cons_zero, List.set_cons_succ]
  refine take_q (i := 20) (v := undef) rfl (by kernel_rfl) (by kernel_rfl) (by kernel_rfl) (fun _ _ _ h => h) (Or.inr ⟨by rfl, rfl⟩) (by assumption) ?_
  try simp only [Act.put, List.setIfInBounds_toArray, List.set_cons_zero, List.set_cons_succ]
  refine take_q (i := 21) (v := undef) rfl (by kernel_rfl) (by kernel_rfl) (by kernel_rfl) (fun _ _ _ h => h) (Or.inr ⟨by rfl, rfl⟩) (by assumption) ?_
  try simp only [Act.put, List.setIfInBounds_toArray, List.set_cons_zero, List.set_cons_succ]
  refine take_q (i := 22) (v := undef) rfl (by kernel_rfl) (by kernel_rfl) (by kernel_rfl) (fun _ _ _ h => h) (Or.inr ⟨by rfl, rfl⟩) (by assumption) ?_
  try simp only [Act.put, List.setIfInBounds_toArray, List.set_cons_zero, List.set_cons_succ]
  refine take_q (i := 23) (v := undef) rfl (by kernel_rfl) (by kernel_rfl) (by kernel_rfl) (fun _ _ _ h => h) (Or.inr ⟨by rfl, rfl⟩) (by assumption) ?_
  try simp only [Act.put, List.setIfInBounds_toArray, List.set_cons_zero, List.set_cons_succ]
  refine take_q (i := 24) (v := undef) rfl (by kernel_rfl) (by kernel_rfl) (by kernel_rfl) (fun _ _ _ h => h) (Or.inr ⟨by rfl, rfl⟩) (by assumption) ?_
  try simp only [Act.put, List.setIfInBounds_toArray, List.set_cons_zero, List.set_cons_succ]
  refine take_q (i := 25) (v := ?_) rfl (by kernel_rfl) (by kernel_rfl) (by kernel_rfl) (fun _ _ _ h => h) (Or.inl ⟨by rfl, ?_⟩) (by assumption) ?_
  rotate_left
  · intro w hSw; (try dsimp only at hSw); go_simp; try with_reducible rfl
  try simp only [Act.put, List.setIfInBounds_toArray, List.set_cons_zero, List.set_cons_succ]
  refine take_q (i := 26) (v := ?_) rfl (by kernel_rfl) (by kernel_rfl) (by kernel_rfl) (fun _ _ _ h => h) (Or.inl ⟨by rfl, ?_⟩) (by assumption) ?_
  rotate_left
  · intro w hSw; (try dsimp only at hSw); go_simp; try with_reducible rfl
  try simp only [Act.put, List.setIfInBounds_toArray, List.set_cons_zero, List.set_cons_succ]
  refine take_q (i := 27) (v := undef) rfl (by kernel_rfl) (by kernel_rfl) (by kernel_rfl) (fun _ _ _ h => h) (Or.inr ⟨by rfl, rfl⟩) (by assumption) ?_
  try simp only [Act.put, List.setIfInBounds_toArray, List.set_cons_zero, List.set_cons_succ]
  refine take_q (i := 28) (v := undef) rfl (by kernel_rfl) (by kernel_rfl) (by kernel_rfl) (fun _ _ _ h => h) (Or.inr ⟨by rfl, rfl⟩) (by assumption) ?_
  try simp only [Act.put, List.setIfInBounds_toArray, List.set_cons_zero, List.set_cons_succ]
  refine take_q (i := 29) (v := undef) rfl (by kernel_rfl) (by kernel_rfl) (by kernel_rfl) (fun _ _ _ h => h) (Or.inr ⟨by rfl, rfl⟩) (by assumption) ?_
  try simp only [Act.put, List.setIfInBounds_toArray, List.set_cons_zero, List.set_cons_succ]
  refine take_q (i := 30) (v := undef) rfl (by kernel_rfl) (by kernel_rfl) (by kernel_rfl) (fun _ _ _ h => h) (Or.inr ⟨by rfl, rfl⟩) (by assumption) ?_
  try simp only [Act.put, List.setIfInBounds_toArray, List.set_cons_zero, List.set_cons_succ]
  refine take_q (i := 31) (v := undef) rfl (by kernel_rfl) (by kernel_rfl) (by kernel_rfl) (fun _ _ _ h => h) (Or.inr ⟨by rfl, rfl⟩) (by assumption) ?_
  try simp only [Act.put, List.setIfInBounds_toArray, List.set_cons_zero, List.set_cons_succ]
  refine take_q (i := 32) (v := ?_) rfl (by kernel_rfl) (by kernel_rfl) (by kernel_rfl) (fun _ _ _ h => h) (Or.inl ⟨by rfl, ?_⟩) (by assumption) ?_
  rotate_left
  · intro w hSw; (try dsimp only at hSw); go_simp; try with_reducible rfl
  try simp only [Act.put, List.setIfInBounds_toArray, List.set_cons_zero, List.set_cons_succ]
  refine take_q (i := 33) (v := ?_) rfl (by kernel_rfl) (by kernel_rfl) (by kernel_rfl) (fun _ _ _ h => h) (Or.inl ⟨by rfl, ?_⟩) (by assumption) ?_
  rotate_left
  · intro w hSw; (try dsimp only at hSw); go_simp; try with_reducible rfl
  try simp only [Act.put, List.setIfInBounds_toArray, List.set_cons_zero, List.set_cons_succ]
  refine take_q (i := 34) (v := undef) rfl (by kernel_rfl) (by kernel_rfl) (by kernel_rfl) (fun _ _ _ h => h) (Or.inr ⟨by rfl, rfl⟩) (by assumption) ?_
  try simp only [Act.put, List.setIfInBounds_toArray, List.set_cons_zero, List.set_cons_succ]
  refine take_q (i := 35) (v := undef) rfl (by kernel_rfl) (by kernel_rfl) (by kernel_rfl) (fun _ _ _ h => h) (Or.inr ⟨by rfl, rfl⟩) (by assumption) ?_
  try simp only [Act.put, List.setIfInBounds_toArray, List.set_cons_zero, List.set_cons_succ]
  refine take_q (i := 36) (v := undef) rfl (by kernel_rfl) (by kernel_rfl) (by kernel_rfl) (fun _ _ _ h => h) (Or.inr ⟨by rfl, rfl⟩) (by assumption) ?_
  try simp only [Act.put, List.setIfInBounds_toArray, List.set_cons_zero, List.set_cons_succ]
  refine take_q (i := 37) (v := undef) rfl (by kernel_rfl) (by kernel_rfl) (by kernel_rfl) (fun _ _ _ h => h) (Or.inr ⟨by rfl, rfl⟩) (by assumption) ?_
  try simp only [Act.put, List.setIfInBounds_toArray, List.set_cons_zero, List.set_cons_succ]
  refine take_q (i := 38) (v := undef) rfl (by kernel_rfl) (by kernel_rfl) (by kernel_rfl) (fun _ _ _ h => h) (Or.inr ⟨by rfl, rfl⟩) (by assumption) ?_
  try simp only [Act.put, List.setIfInBounds_toArray, List.set_cons_zero, List.set_cons_succ]
  refine take_q (i := 39) (v := ?_) rfl (by kernel_rfl) (by kernel_rfl) (by kernel_rfl) (fun _ _ _ h => h) (Or.inl ⟨by rfl, ?_⟩) (by assumption) ?_
  rotate_left
  · intro w hSw; (try dsimp only at hSw); go_simp; try with_reducible rfl
  try simp only [Act.put, List.setIfInBounds_toArray, List.set_cons_zero, List.set_cons_succ]
  refine take_q (i := 40) (v := ?_) rfl (by kernel_rfl) (by kernel_rfl) (by kernel_rfl) (fun _ _ _ h => h) (Or.inl ⟨by rfl, ?_⟩) (by assumption) ?_
  rotate_left
  · intro w hSw; (try dsimp only at hSw); go_simp; try with_reducible rfl
  try simp only [Act.put, List.setIfInBounds_toArray, List.set_cons_zero, List.set_cons_succ]
  refine wpAnyH_done (by kernel_rfl) ?_ _
  go_wp2_with fail
  go_ret
  exact ⟨rfl, hHeld.2.2⟩
set_option maxRecDepth 100000 in
set_option maxHeartbeats 1600000 in
theorem same3_c (a b : Ob) (w : World) (hf : flatEq a b = true)
    (h0 : ∀ w', Below w.heap.size w w' → Calls Tryd.prog 63 #[.slice a.fin.a a.fin.n a.fin.c, .slice b.fin.a b.fin.n b.fin.c] w' fun e w'' => e = .returned (.bool true) ∧ Below w'.heap.size w' w'')
    (h1 : ∀ w', Below w.heap.size w w' → Calls Tryd.prog 64 #[.slice a.lab.a a.lab.n a.lab.c, .slice b.lab.a b.lab.n b.lab.c] w' fun e w'' => e = .returned (.bool true) ∧ Below w'.heap.size w' w'')
    (h2 : ∀ w', Below w.heap.size w w' → Calls Tryd.prog 63 #[.slice a.cid.a a.cid.n a.cid.c, .slice b.cid.a b.cid.n b.cid.c] w' fun e w'' => e = .returned (.bool false) ∧ Below w'.heap.size w' w'') :
    Calls Tryd.prog 32 #[ObjV a, ObjV b] w fun e w' => e = .returned (.bool false) ∧ Below w.heap.size w w' := by
  have HF := Lib.hid hf
  have H0 := Lib.hid h0
  have H1 := Lib.hid h1
  have H2 := Lib.hid h2
  clear hf h0 h1 h2
  rw [ObjV_eq, ObjV_eq]
  go_enter Tryd.func32, Tryd.ntmps32
  go_upto_region 1 with (fail)
  have hA : Blk ((w.alloc (.cells (ObjC a) 46)).alloc (.cells (ObjC b) 46)) w.heap.size 46 (ObjC a) := Blk.alloc (Blk.new _ _ _) _
  have hB : Blk ((w.alloc (.cells (ObjC a) 46)).alloc (.cells (ObjC b) 46)) (w.heap.size + 1) 46 (ObjC b) := Blk.new' _ _ _ _ (by simp)
  have hbel : Below w.heap.size w ((w.alloc (.cells (ObjC a) 46)).alloc (.cells (ObjC b) 46)) := (by repeat (first | (with_reducible exact Below.refl _ _) | (with_reducible assumption) | (with_reducible refine bl_alloc ?_ _) | (with_reducible refine bl_drew ?_) | (with_reducible refine bl_drewN ?_ _) | (with_reducible refine bl_set ?_ (by first | (simp; done) | (simp; omega)) _) | (with_reducible refine bl_trans ?_ ‹_›)))
  generalize (w.alloc (.cells (ObjC a) 46)).alloc (.cells (ObjC b) 46) = wz at *
  refine wp_region_held_drew (S := fun w' => Blk w' w.heap.size 46 (ObjC a) ∧ Blk w' (w.heap.size + 1) 46 (ObjC b) ∧ Below w.heap.size w w') (by kernel_rfl) ?_ (fun hHeld => ?_)
  · (first | exact ⟨hHeld.1.after hb1, hHeld.2.1.after hb1, bl_trans hHeld.2.2 hb1⟩ | exact ⟨(by repeat (first | (with_reducible assumption) | (with_reducible refine blk_fill (u := .int .u64 0) (v := .int .u64 0) ?_) | (with_reducible refine Blk.drew ?_) | (with_reducible refine Blk.new' _ _ _ _ (by first | (with_reducible rfl) | (simp; done))) | (with_reducible refine Blk.alloc ?_ _) | (with_reducible refine Blk.after ?_ ‹_›) | (with_reducible refine Blk.far ?_ (by first | (simp; done) | (simp; omega)) _))), (by repeat (first | (with_reducible assumption) | (with_reducible refine blk_fill (u := .int .u64 0) (v := .int .u64 0) ?_) | (with_reducible refine Blk.drew ?_) | (with_reducible refine Blk.new' _ _ _ _ (by first | (with_reducible rfl) | (simp; done))) | (with_reducible refine Blk.alloc ?_ _) | (with_reducible refine Blk.after ?_ ‹_›) | (with_reducible refine Blk.far ?_ (by first | (simp; done) | (simp; omega)) _))), (by repeat (first | (with_reducible exact Below.refl _ _) | (with_reducible assumption) | (with_reducible refine bl_alloc ?_ _) | (with_reducible refine bl_drew ?_) | (with_reducible refine bl_drewN ?_ _) | (with_reducible refine bl_set ?_ (by first | (simp; done) | (simp; omega)) _) | (with_reducible refine bl_trans ?_ ‹_›)))⟩)
  refine take_q (i := 0) (v := _) rfl (by kernel_rfl) (by kernel_rfl) (by kernel_rfl) (fun _ _ _ h => h) (Or.inl ⟨by rfl, fun w hSw => load_obj rfl rfl hSw.1 rfl⟩) (by assumption) ?_
  try simp only [Act.put, List.setIfInBounds_toArray, List.set_cons_zero, List.set_cons_succ]
  refine take_q (i := 2) (v := _) rfl (by kernel_rfl) (by kernel_rfl) (by kernel_rfl) (fun _ _ _ h => h) (Or.inl ⟨by rfl, fun w hSw => load_obj rfl rfl hSw.2.1 rfl⟩) (by assumption) ?_
  try simp only [Act.put, List.setIfInBounds_toArray, List.set_cons_zero, List.set_cons_succ]
  refine wpAnyH_ready (rs := [1]) (by kernel_rfl) (by simp) ?_
  refine cons_q rfl (fun K hK => ?_) AllReadyH.nil
  go_simp
  refine (flatten_c a _).mono ?_; rintro e w1 ⟨rfl, hb1⟩
  refine hK.out _ _ ?_ (fun hHeld => ?_)
  · (first | exact ⟨hHeld.1.after hb1, hHeld.2.1.after hb1, bl_trans hHeld.2.2 hb1⟩ | exact ⟨(by repeat (first | (with_reducible assumption) | (with_reducible refine blk_fill (u := .int .u64 0) (v := .int .u64 0) ?_) | (with_reducible refine Blk.drew ?_) | (with_reducible refine Blk.new' _ _ _ _ (by first | (with_reducible rfl) | (simp; done))) | (with_reducible refine Blk.alloc ?_ _) | (with_reducible refine Blk.after ?_ ‹_›) | (with_reducible refine Blk.far ?_ (by first | (simp; done) | (simp; omega)) _))), (by repeat (first | (with_reducible assumption) | (with_reducible refine blk_fill (u := .int .u64 0) (v := .int .u64 0) ?_) | (with_reducible refine Blk.drew ?_) | (with_reducible refine Blk.new' _ _ _ _ (by first | (with_reducible rfl) | (simp; done))) | (with_reducible refine Blk.alloc ?_ _) | (with_reducible refine Blk.after ?_ ‹_›) | (with_reducible refine Blk.far ?_ (by first | (simp; done) | (simp; omega)) _))), (by repeat (first | (with_reducible exact Below.refl _ _) | (with_reducible assumption) | (with_reducible refine bl_alloc ?_ _) | (with_reducible refine bl_drew ?_) | (with_reducible refine bl_drewN ?_ _) | (with_reducible refine bl_set ?_ (by first | (simp; done) | (simp; omega)) _) | (with_reducible refine bl_trans ?_ ‹_›)))⟩)
  clear hK K
  try simp only [Act.put, List.setIfInBounds_toArray, List.set_cons_zero, List.set_cons_succ]
  refine wpAnyH_ready (rs := [3]) (by kernel_rfl) (by simp) ?_
  refine cons_q rfl (fun K hK => ?_) AllReadyH.nil
  go_simp
  refine (flatten_c b _).mono ?_; rintro e w1 ⟨rfl, hb1⟩
  refine hK.out _ _ ?_ (fun hHeld => ?_)
  · (first | exact ⟨hHeld.1.after hb1, hHeld.2.1.after hb1, bl_trans hHeld.2.2 hb1⟩ | exact ⟨(by repeat (first | (with_reducible assumption) | (with_reducible refine blk_fill (u := .int .u64 0) (v := .int .u64 0) ?_) | (with_reducible refine Blk.drew ?_) | (with_reducible refine Blk.new' _ _ _ _ (by first | (with_reducible rfl) | (simp; done))) | (with_reducible refine Blk.alloc ?_ _) | (with_reducible refine Blk.after ?_ ‹_›) | (with_reducible refine Blk.far ?_ (by first | (simp; done) | (simp; omega)) _))), (by repeat (first | (with_reducible assumption) | (with_reducible refine blk_fill (u := .int .u64 0) (v := .int .u64 0) ?_) | (with_reducible refine Blk.drew ?_) | (with_reducible refine Blk.new' _ _ _ _ (by first | (with_reducible rfl) | (simp; done))) | (with_reducible refine Blk.alloc ?_ _) | (with_reducible refine Blk.after ?_ ‹_›) | (with_reducible refine Blk.far ?_ (by first | (simp; done) | (simp; omega)) _))), (by repeat (first | (with_reducible exact Below.refl _ _) | (with_reducible assumption) | (with_reducible refine bl_alloc ?_ _) | (with_reducible refine bl_drew ?_) | (with_reducible refine bl_drewN ?_ _) | (with_reducible refine bl_set ?_ (by first | (simp; done) | (simp; omega)) _) | (with_reducible refine bl_trans ?_ ‹_›)))⟩)
  clear hK K
  try simp only [Act.put, List.setIfInBounds_toArray, List.set_cons_zero, List.set_cons_succ]
  refine take_q (i := 4) (v := .bool true) rfl (by kernel_rfl) (by kernel_rfl) (by kernel_rfl) (fun _ _ _ h => h) (Or.inl ⟨by rfl, fun w hSw => by rw [← HF.out]; exact eql_flat rfl rfl rfl⟩) (by assumption) ?_
  try simp only [Act.put, List.setIfInBounds_toArray, List.set_cons_zero, List.set_cons_succ]
  refine take_q (i := 5) (v := ?_) rfl (by kernel_rfl) (by kernel_rfl) (by kernel_rfl) (fun _ _ _ h => h) (Or.inl ⟨by rfl, ?_⟩) (by assumption) ?_
  rotate_left
  · intro w hSw; (try dsimp only at hSw); go_simp; try with_reducible rfl
  try simp only [Act.put, List.setIfInBounds_toArray, List.set_cons_zero, List.set_cons_succ]
  refine take_q (i := 6) (v := ?_) rfl (by kernel_rfl) (by kernel_rfl) (by kernel_rfl) (fun _ _ _ h => h) (Or.inl ⟨by rfl, ?_⟩) (by assumption) ?_
  rotate_left
  · intro w hSw; (try dsimp only at hSw); go_simp; try with_reducible rfl
  try simp only [Act.put, List.setIfInBounds_toArray, List.set_cons_zero, List.set_cons_succ]
  refine take_q (i := 7) (v := _) rfl (by kernel_rfl) (by kernel_rfl) (by kernel_rfl) (fun _ _ _ h => h) (Or.inl ⟨by rfl, fun w hSw => load_fld (j := 5) rfl rfl hSw.1 rfl Tryd.isAgg42⟩) (by assumption) ?_
  try simp only [Act.put, List.setIfInBounds_toArray, List.set_cons_zero, List.set_cons_succ]
  refine take_q (i := 8) (v := ?_) rfl (by kernel_rfl) (by kernel_rfl) (by kernel_rfl) (fun _ _ _ h => h) (Or.inl ⟨by rfl, ?_⟩) (by assumption) ?_
  rotate_left
  · intro w hSw; (try dsimp only at hSw); go_simp; try with_reducible rfl
  try simp only [Act.put, List.setIfInBounds_toArray, List.set_cons_zero, List.set_cons_succ]
  refine take_q (i := 9) (v := _) rfl (by kernel_rfl) (by kernel_rfl) (by kernel_rfl) (fun _ _ _ h => h) (Or.inl ⟨by rfl, fun w hSw => load_fld (j := 5) rfl rfl hSw.2.1 rfl Tryd.isAgg42⟩) (by assumption) ?_
  try simp only [Act.put, List.setIfInBounds_toArray, List.set_cons_zero, List.set_cons_succ]
  refine wpAnyH_ready (rs := [10]) (by kernel_rfl) (by simp) ?_
  refine cons_q rfl (fun K hK => ?_) AllReadyH.nil
  go_simp
  refine (H0.out _ hHeld.2.2).mono ?_; rintro e w1 ⟨rfl, hb1⟩
  refine hK.out _ _ ?_ (fun hHeld => ?_)
  · (first | exact ⟨hHeld.1.after hb1, hHeld.2.1.after hb1, bl_trans hHeld.2.2 hb1⟩ | exact ⟨(by repeat (first | (with_reducible assumption) | (with_reducible refine blk_fill (u := .int .u64 0) (v := .int .u64 0) ?_) | (with_reducible refine Blk.drew ?_) | (with_reducible refine Blk.new' _ _ _ _ (by first | (with_reducible rfl) | (simp; done))) | (with_reducible refine Blk.alloc ?_ _) | (with_reducible refine Blk.after ?_ ‹_›) | (with_reducible refine Blk.far ?_ (by first | (simp; done) | (simp; omega)) _))), (by repeat (first | (with_reducible assumption) | (with_reducible refine blk_fill (u := .int .u64 0) (v := .int .u64 0) ?_) | (with_reducible refine Blk.drew ?_) | (with_reducible refine Blk.new' _ _ _ _ (by first | (with_reducible rfl) | (simp; done))) | (with_reducible refine Blk.alloc ?_ _) | (with_reducible refine Blk.after ?_ ‹_›) | (with_reducible refine Blk.far ?_ (by first | (simp; done) | (simp; omega)) _))), (by repeat (first | (with_reducible exact Below.refl _ _) | (with_reducible assumption) | (with_reducible refine bl_alloc ?_ _) | (with_reducible refine bl_drew ?_) | (with_reducible refine bl_drewN ?_ _) | (with_reducible refine bl_set ?_ (by first | (simp; done) | (simp; omega)) _) | (with_reducible refine bl_trans ?_ ‹_›)))⟩)
  clear hK K
  try simp only [Act.put, List.setIfInBounds_toArray, List.set_cons_zero, List.set_cons_succ]
  refine take_q (i := 11) (v := ?_) rfl (by kernel_rfl) (by kernel_rfl) (by kernel_rfl) (fun _ _ _ h => h) (Or.inl ⟨by rfl, ?_⟩) (by assumption) ?_
  rotate_left
  · intro w hSw; (try dsimp only at hSw); go_simp; try with_reducible rfl
  try simp only [Act.put, List.setIfInBounds_toArray, List.set_cons_zero, List.set_cons_succ]
  refine take_q (i := 12) (v := ?_) rfl (by kernel_rfl) (by kernel_rfl) (by kernel_rfl) (fun _ _ _ h => h) (Or.inl ⟨by rfl, ?_⟩) (by assumption) ?_
  rotate_left
  · intro w hSw; (try dsimp only at hSw); go_simp; try with_reducible rfl
  try simp only [Act.put, List.setIfInBounds_toArray, List.set_cons_zero, List.set_cons_succ]
  refine take_q (i := 13) (v := ?_) rfl (by kernel_rfl) (by kernel_rfl) (by kernel_rfl) (fun _ _ _ h => h) (Or.inl ⟨by rfl, ?_⟩) (by assumption) ?_
  rotate_left
  · intro w hSw; (try dsimp only at hSw); go_simp; try with_reducible rfl
  try simp only [Act.put, List.setIfInBounds_toArray, List.set_cons_zero, List.set_cons_succ]
  refine take_q (i := 14) (v := _) rfl (by kernel_rfl) (by kernel_rfl) (by kernel_rfl) (fun _ _ _ h => h) (Or.inl ⟨by rfl, fun w hSw => load_fld (j := 6) rfl rfl hSw.1 rfl Tryd.isAgg43⟩) (by assumption) ?_
  try simp only [Act.put, List.setIfInBounds_toArray, List.set_cons_zero, List.set_cons_succ]
  refine take_q (i := 15) (v := ?_) rfl (by kernel_rfl) (by kernel_rfl) (by kernel_rfl) (fun _ _ _ h => h) (Or.inl ⟨by rfl, ?_⟩) (by assumption) ?_
  rotate_left
  · intro w hSw; (try dsimp only at hSw); go_simp; try with_reducible rfl
  try simp only [Act.put, List.setIfInBounds_toArray, List.set_cons_zero, List.set_cons_succ]
  refine take_q (i := 16) (v := _) rfl (by kernel_rfl) (by kernel_rfl) (by kernel_rfl) (fun _ _ _ h => h) (Or.inl ⟨by rfl, fun w hSw => load_fld (j := 6) rfl rfl hSw.2.1 rfl Tryd.isAgg43⟩) (by assumption) ?_
  try simp only [Act.put, List.setIfInBounds_toArray, List.set_cons_zero, List.set_cons_succ]
  refine wpAnyH_ready (rs := [17]) (by kernel_rfl) (by simp) ?_
  refine cons_q rfl (fun K hK => ?_) AllReadyH.nil
  go_simp
  refine (H1.out _ hHeld.2.2).mono ?_; rintro e w1 ⟨rfl, hb1⟩
  refine hK.out _ _ ?_ (fun hHeld => ?_)
  · (first | exact ⟨hHeld.1.after hb1, hHeld.2.1.after hb1, bl_trans hHeld.2.2 hb1⟩ | exact ⟨(by repeat (first | (with_reducible assumption) | (with_reducible refine blk_fill (u := .int .u64 0) (v := .int .u64 0) ?_) | (with_reducible refine Blk.drew ?_) | (with_reducible refine Blk.new' _ _ _ _ (by first | (with_reducible rfl) | (simp; done))) | (with_reducible refine Blk.alloc ?_ _) | (with_reducible refine Blk.after ?_ ‹_›) | (with_reducible refine Blk.far ?_ (by first | (simp; done) | (simp; omega)) _))), (by repeat (first | (with_reducible assumption) | (with_reducible refine blk_fill (u := .int .u64 0) (v := .int .u64 0) ?_) | (with_reducible refine Blk.drew ?_) | (with_reducible refine Blk.new' _ _ _ _ (by first | (with_reducible rfl) | (simp; done))) | (with_reducible refine Blk.alloc ?_ _) | (with_reducible refine Blk.after ?_ ‹_›) | (with_reducible refine Blk.far ?_ (by first | (simp; done) | (simp; omega)) _))), (by repeat (first | (with_reducible exact Below.refl _ _) | (with_reducible assumption) | (with_reducible refine bl_alloc ?_ _) | (with_reducible refine bl_drew ?_) | (with_reducible refine bl_drewN ?_ _) | (with_reducible refine bl_set ?_ (by first | (simp; done) | (simp; omega)) _) | (with_reducible refine bl_trans ?_ ‹_›)))⟩)
  clear hK K
  try simp only [Act.put, List.setIfInBounds_toArray, List.set_cons_zero, List.set_cons_succ]
  refine take_q (i := 18) (v := ?_) rfl (by kernel_rfl) (by kernel_rfl) (by kernel_rfl) (fun _ _ _ h => h) (Or.inl ⟨by rfl, ?_⟩) (by assumption) ?_
  rotate_left
  · intro w hSw; (try dsimp only at hSw); go_simp; try with_reducible rfl
  try simp only [Act.put, List.setIfInBounds_toArray, List.set_cons_zero, List.set_cons_succ]
  refine take_q (i := 19) (v := ?_) rfl (by kernel_rfl) (by kernel_rfl) (by kernel_rfl) (fun _ _ _ h => h) (Or.inl ⟨by rfl, ?_⟩) (by assumption) ?_
  rotate_left
  · intro w hSw; (try dsimp only at hSw); go_simp; try with_reducible rfl
  try simp only [Act.put, List.setIfInBounds_toArray, List.set_cons_zero, List.set_cons_succ]
  refine take_q (i := 20) (v := ?_) rfl (by kernel_rfl) (by kernel_rfl) (by kernel_rfl) (fun _ _ _ h => h) (Or.inl ⟨by rfl, ?_⟩) (by assumption) ?_
  rotate_left
  · intro w hSw; (try dsimp only at hSw); go_simp; try with_reducible rfl
  try simp only [Act.put, List.setIfInBounds_toArray, List.set_cons_zero, List.set_cons_succ]
  refine take_q (i := 21) (v := _) rfl (by kernel_rfl) (by kernel_rfl) (by kernel_rfl) (fun _ _ _ h => h) (Or.inl ⟨by rfl, fun w hSw => load_fld (j := 7) rfl rfl hSw.1 rfl Tryd.isAgg42⟩) (by assumption) ?_
  try simp only [Act.put, List.setIfInBounds_toArray, List.set_cons_zero, List.set_cons_succ]
  refine take_q (i := 22) (v := ?_) rfl (by kernel_rfl) (by kernel_rfl) (by kernel_rfl) (fun _ _ _ h => h) (Or.inl ⟨by rfl, ?_⟩) (by assumption) ?_
  rotate_left
  · intro w hSw; (try dsimp only at hSw); go_simp; try with_reducible rfl
  try simp only [Act.put, List.setIfInBounds_toArray, List.set_cons_zero, List.set_cons_succ]
  refine take_q (i := 23) (v := _) rfl (by kernel_rfl) (by kernel_rfl) (by kernel_rfl) (fun _ _ _ h => h) (Or.inl ⟨by rfl, fun w hSw => load_fld (j := 7) rfl rfl hSw.2.1 rfl Tryd.isAgg42⟩) (by assumption) ?_
  try simp only [Act.put, List.setIfInBounds_toArray, List.set_cons_zero, List.set_cons_succ]
  refine wpAnyH_ready (rs := [24]) (by kernel_rfl) (by simp) ?_
  refine cons_q rfl (fun K hK => ?_) AllReadyH.nil
  go_simp
  refine (H2.out _ hHeld.2.2).mono ?_; rintro e w1 ⟨rfl, hb1⟩
  refine hK.out _ _ ?_ (fun hHeld => ?_)
  · (first | exact ⟨hHeld.1.after hb1, hHeld.2.1.after hb1, bl_trans hHeld.2.2 hb1⟩ | exact ⟨(by repeat (first | (with_reducible assumption) | (with_reducible refine blk_fill (u := .int .u64 0) (v := .int .u64 0) ?_) | (with_reducible refine Blk.drew ?_) | (with_reducible refine Blk.new' _ _ _ _ (by first | (with_reducible rfl) | (simp; done))) | (with_reducible refine Blk.alloc ?_ _) | (with_reducible refine Blk.after ?_ ‹_›) | (with_reducible refine Blk.far ?_ (by first | (simp; done) | (simp; omega)) _))), (by repeat (first | (with_reducible assumption) | (with_reducible refine blk_fill (u := .int .u64 0) (v := .int .u64 0) ?_) | (with_reducible refine Blk.drew ?_) | (with_reducible refine Blk.new' _ _ _ _ (by first | (with_reducible rfl) | (simp; done))) | (with_reducible refine Blk.alloc ?_ _) | (with_reducible refine Blk.after ?_ ‹_›) | (with_reducible refine Blk.far ?_ (by first | (simp; done) | (simp; omega)) _))), (by repeat (first | (with_reducible exact Below.refl _ _) | (with_reducible assumption) | (with_reducible refine bl_alloc ?_ _) | (with_reducible refine bl_drew ?_) | (with_reducible refine bl_drewN ?_ _) | (with_reducible refine bl_set ?_ (by first | (simp; done) | (simp; omega)) _) | (with_reducible refine bl_trans ?_ ‹_›)))⟩)
  clear hK K
  try simp only [Act.put, List.setIfInBounds_toArray, List.set_cons_zero, List.set_cons_succ]
  refine take_q (i := 25) (v := ?_) rfl (by kernel_rfl) (by kernel_rfl) (by kernel_rfl) (fun _ _ _ h => h) (Or.inl ⟨by rfl, ?_⟩) (by assumption) ?_
  rotate_left
  · intro w hSw; (try dsimp only at hSw); go_simp; try with_reducible rfl
  try simp only [Act.put, List.setIfInBounds_toArray, List.set_cons_zero, List.set_cons_succ]
  refine take_q (i := 26) (v := ?_) rfl (by kernel_rfl) (by kernel_rfl) (by kernel_rfl) (fun _ _ _ h => h) (Or.inl ⟨by rfl, ?_⟩) (by assumption) ?_
  rotate_left
  · intro w hSw; (try dsimp only at hSw); go_simp; try with_reducible rfl
  try simp only [Act.put, List.setIfInBounds_toArray, List.set_cons_zero, List.set_cons_succ]
  refine take_q (i := 27) (v := undef) rfl (by kernel_rfl) (by kernel_rfl) (by kernel_rfl) (fun _ _ _ h => h) (Or.inr ⟨by rfl, rfl⟩) (by assumption) ?_
  try simp only [Act.put, List.setIfInBounds_toArray, List.set_cons_zero, List.set_cons_succ]
  refine take_q (i := 28) (v := undef) rfl (by kernel_rfl) (by kernel_rfl) (by kernel_rfl) (fun _ _ _ h => h) (Or.inr ⟨by rfl, rfl⟩) (by assumption) ?_
  try simp only [Act.put, List.setIfInBounds_toArray, List.set_cons_zero, List.set_cons_succ]
  refine take_q (i := 29) (v := undef) rfl (by kernel_rfl) (by kernel_rfl) (by kernel_rfl) (fun _ _ _ h => h) (Or.inr ⟨by rfl, rfl⟩) (by assumption) ?_
  try simp only [Act.put, List.setIfInBounds_toArray, List.set_cons_zero, List.set_cons_succ]
  refine take_q (i := 30) (v := undef) rfl (by kernel_rfl) (by kernel_rfl) (by kernel_rfl) (fun _ _ _ h => h) (Or.inr ⟨by rfl, rfl⟩) (by assumption) ?_
  try simp only [Act.put, List.setIfInBounds_toArray, List.set_cons_zero, List.set_cons_succ]
  refine take_q (i := 31) (v := undef) rfl (by kernel_rfl) (by kernel_rfl) (by kernel_rfl) (fun _ _ _ h => h) (Or.inr ⟨by rfl, rfl⟩) (by assumption) ?_
  try simp only [Act.put, List.setIfInBounds_toArray, List.set_cons_zero, List.set_cons_succ]
  refine take_q (i := 32) (v := ?_) rfl (by kernel_rfl) (by kernel_rfl) (by kernel_rfl) (fun _ _ _ h => h) (Or.inl ⟨by rfl, ?_⟩) (by assumption) ?_
  rotate_left
  · intro w hSw; (try dsimp only at hSw); go_simp; try with_reducible rfl
  try simp only [Act.put, List.setIfInBounds_toArray, List.set_cons_zero, List.set_cons_succ]
  refine take_q (i := 33) (v := ?_) rfl (by kernel_rfl) (by kernel_rfl) (by kernel_rfl) (fun _ _ _ h => h) (Or.inl ⟨by rfl, ?_⟩) (by assumption) ?_
  rotate_left
  · intro w hSw; (try dsimp only at hSw); go_simp; try with_reducible rfl
  try simp only [Act.put, List.setIfInBounds_toArray, List.set_cons_zero, List.set_cons_succ]
  refine take_q (i := 34) (v := undef) rfl (by kernel_rfl) (by kernel_rfl) (by kernel_rfl) (fun _ _ _ h => h) (Or.inr ⟨by rfl, rfl⟩) (by assumption) ?_
  try simp only [Act.put, List.setIfInBounds_toArray, List.set_cons_zero, List.set_cons_succ]
  refine take_q (i := 35) (v := undef) rfl (by kernel_rfl) (by kernel_rfl) (by kernel_rfl) (fun _ _ _ h => h) (Or.inr ⟨by rfl, rfl⟩) (by assumption) ?_
  try simp only [Act.put, List.setIfInBounds_toArray, List.set_cons_zero, List.set_cons_succ]
  refine take_q (i := 36) (v := undef) rfl (by kernel_rfl) (by kernel_rfl) (by kernel_rfl) (fun _ _ _ h => h) (Or.inr ⟨by rfl, rfl⟩) (by assumption) ?_
  try simp only [Act.put, List.setIfInBounds_toArray, List.set_cons_zero, List.set_cons_succ]
  refine take_q (i := 37) (v := undef) rfl (by kernel_rfl) (by kernel_rfl) (by kernel_rfl) (fun _ _ _ h => h) (Or.inr ⟨by rfl, rfl⟩) (by assumption) ?_
  try simp only [Act.put, List.setIfInBounds_toArray, List.set_cons_zero, List.set_cons_succ]
  refine take_q (i := 38) (v := undef) rfl (by kernel_rfl) (by kernel_rfl) (by kernel_rfl) (fun _ _ _ h => h) (Or.inr ⟨by rfl, rfl⟩) (by assumption) ?_
  try simp only [Act.put, List.setIfInBounds_toArray, List.set_cons_zero, List.set_cons_succ]
  refine take_q (i := 39) (v := ?_) rfl (by kernel_rfl) (by kernel_rfl) (by kernel_rfl) (fun _ _ _ h => h) (Or.inl ⟨by rfl, ?_⟩) (by assumption) ?_
  rotate_left
  · intro w hSw; (try dsimp only at hSw); go_simp; try with_reducible rfl
  try simp only [Act.put, List.setIfInBounds_toArray, List.set_cons_zero, List.set_cons_succ]
  refine take_q (i := 40) (v := ?_) rfl (by kernel_rfl) (by kernel_rfl) (by kernel_rfl) (fun _ _ _ h => h) (Or.inl ⟨by rfl, ?_⟩) (by assumption) ?_
  rotate_left
  · intro w hSw; (try dsimp only at hSw); go_simp; try with_reducible rfl
  try simp only [Act.put, List.setIfInBounds_toArray, List.set_cons_zero, List.set_cons_succ]
  refine wpAnyH_done (by kernel_rfl) ?_ _
  go_wp2_with fail
  go_ret
  exact ⟨rfl, hHeld.2.2⟩
set_option maxRecDepth 100000 in
set_option maxHeartbeats 1600000 in
theorem same4_c (a b : Ob) (w : World) (hf : flatEq a b = true)
    (h0 : ∀ w', Below w.heap.size w w' → Calls Tryd.prog 63 #[.slice a.fin.a a.fin.n a.fin.c, .slice b.fin.a b.fin.n b.fin.c] w' fun e w'' => e = .returned (.bool true) ∧ Below w'.heap.size w' w'')
    (h1 : ∀ w', Below w.heap.size w w' → Calls Tryd.prog 64 #[.slice a.lab.a a.lab.n a.lab.c, .slice b.lab.a b.lab.n b.lab.c] w' fun e w'' => e = .returned (.bool true) ∧ Below w'.heap.size w' w'')
    (h2 : ∀ w', Below w.heap.size w w' → Calls Tryd.prog 63 #[.slice a.cid.a a.cid.n a.cid.c, .slice b.cid.a b.cid.n b.cid.c] w' fun e w'' => e = .returned (.bool true) ∧ Below w'.heap.size w' w'')
    (h3 : ∀ w', Below w.heap.size w w' → Calls Tryd.prog 65 #[.slice a.fam.a a.fam.n a.fam.c, .slice b.fam.a b.fam.n b.fam.c] w' fun e w'' => e = .returned (.bool false) ∧ Below w'.heap.size w' w'') :
    Calls Tryd.prog 32 #[ObjV a, ObjV b] w fun e w' => e = .returned (.bool false) ∧ Below w.heap.size w w' := by
  have HF := Lib.hid hf
  have H0 := Lib.hid h0
  have H1 := Lib.hid h1
  have H2 := Lib.hid h2
  have H3 := Lib.hid h3
  clear hf h0 h1 h2 h3
  rw [ObjV_eq, ObjV_eq]
  go_enter Tryd.func32, Tryd.ntmps32
  go_upto_region 1 with (fail)
  have hA : Blk ((w.alloc (.cells (ObjC a) 46)).alloc (.cells (ObjC b) 46)) w.heap.size 46 (ObjC a) := Blk.alloc (Blk.new _ _ _) _
  have hB : Blk ((w.alloc (.cells (ObjC a) 46)).alloc (.cells (ObjC b) 46)) (w.heap.size + 1) 46 (ObjC b) := Blk.new' _ _ _ _ (by simp)
  have hbel : Below w.heap.size w ((w.alloc (.cells (ObjC a) 46)).alloc (.cells (ObjC b) 46)) := (by repeat (first | (with_reducible exact Below.refl _ _) | (with_reducible assumption) | (with_reducible refine bl_alloc ?_ _) | (with_reducible refine bl_drew ?_) | (with_reducible refine bl_drewN ?_ _) | (with_reducible refine bl_set ?_ (by first | (simp; done) | (simp; omega)) _) | (with_reducible refine bl_trans ?_ ‹_›)))
  generalize (w.alloc (.cells (ObjC a) 46)).alloc (.cells (ObjC b) 46) = wz at *
  refine wp_region_held_drew (S := fun w' => Blk w' w.heap.size 46 (ObjC a) ∧ Blk w' (w.heap.size + 1) 46 (ObjC b) ∧ Below w.heap.size w w') (by kernel_rfl) ?_ (fun hHeld => ?_)
  · (first | exact ⟨hHeld.1.after hb1, hHeld.2.1.after hb1, bl_trans hHeld.2.2 hb1⟩ | exact ⟨(by repeat (first | (with_reducible assumption) | (with_reducible refine blk_fill (u := .int .u64 0) (v := .int .u64 0) ?_) | (with_reducible refine Blk.drew ?_) | (with_reducible refine Blk.new' _ _ _ _ (by first | (with_reducible rfl) | (simp; done))) | (with_reducible refine Blk.alloc ?_ _) | (with_reducible refine Blk.after ?_ ‹_›) | (with_reducible refine Blk.far ?_ (by first | (simp; done) | (simp; omega)) _))), (by repeat (first | (with_reducible assumption) | (with_reducible refine blk_fill (u := .int .u64 0) (v := .int .u64 0) ?_) | (with_reducible refine Blk.drew ?_) | (with_reducible refine Blk.new' _ _ _ _ (by first | (with_reducible rfl) | (simp; done))) | (with_reducible refine Blk.alloc ?_ _) | (with_reducible refine Blk.after ?_ ‹_›) | (with_reducible refine Blk.far ?_ (by first | (simp; done) | (simp; omega)) _))), (by repeat (first | (with_reducible exact Below.refl _ _) | (with_reducible assumption) | (with_reducible refine bl_alloc ?_ _) | (with_reducible refine bl_drew ?_) | (with_reducible refine bl_drewN ?_ _) | (with_reducible refine bl_set ?_ (by first | (simp; done) | (simp; omega)) _) | (with_reducible refine bl_trans ?_ ‹_›)))⟩)
  refine take_q (i := 0) (v := _) rfl (by kernel_rfl) (by kernel_rfl) (by kernel_rfl) (fun _ _ _ h => h) (Or.inl ⟨by rfl, fun w hSw => load_obj rfl rfl hSw.1 rfl⟩) (by assumption) ?_
  try simp only [Act.put, List.setIfInBounds_toArray, List.set_cons_zero, List.set_cons_succ]
  refine take_q (i := 2) (v := _) rfl (by kernel_rfl) (by kernel_rfl) (by kernel_rfl) (fun _ _ _ h => h) (Or.inl ⟨by rfl, fun w hSw => load_obj rfl rfl hSw.2.1 rfl⟩) (by assumption) ?_
  try simp only [Act.put, List.setIfInBounds_toArray, List.set_cons_zero, List.set_cons_succ]
  refine wpAnyH_ready (rs := [1]) (by kernel_rfl) (by simp) ?_
  refine cons_q rfl (fun K hK => ?_) AllReadyH.nil
  go_simp
  refine (flatten_c a _).mono ?_; rintro e w1 ⟨rfl, hb1⟩
  refine hK.out _ _ ?_ (fun hHeld => ?_)
  · (first | exact ⟨hHeld.1.after hb1, hHeld.2.1.after hb1, bl_trans hHeld.2.2 hb1⟩ | exact ⟨(by repeat (first | (with_reducible assumption) | (with_reducible refine blk_fill (u := .int .u64 0) (v := .int .u64 0) ?_) | (with_reducible refine Blk.drew ?_) | (with_reducible refine Blk.new' _ _ _ _ (by first | (with_reducible rfl) | (simp; done))) | (with_reducible refine Blk.alloc ?_ _) | (with_reducible refine Blk.after ?_ ‹_›) | (with_reducible refine Blk.far ?_ (by first | (simp; done) | (simp; omega)) _))), (by repeat (first | (with_reducible assumption) | (with_reducible refine blk_fill (u := .int .u64 0) (v := .int .u64 0) ?_) | (with_reducible refine Blk.drew ?_) | (with_reducible refine Blk.new' _ _ _ _ (by first | (with_reducible rfl) | (simp; done))) | (with_reducible refine Blk.alloc ?_ _) | (with_reducible refine Blk.after ?_ ‹_›) | (with_reducible refine Blk.far ?_ (by first | (simp; done) | (simp; omega)) _))), (by repeat (first | (with_reducible exact Below.refl _ _) | (with_reducible assumption) | (with_reducible refine bl_alloc ?_ _) | (with_reducible refine bl_drew ?_) | (with_reducible refine bl_drewN ?_ _) | (with_reducible refine bl_set ?_ (by first | (simp; done) | (simp; omega)) _) | (with_reducible refine bl_trans ?_ ‹_›)))⟩)
  clear hK K
  try simp only [Act.put, List.setIfInBounds_toArray, List.set_cons_zero, List.set_cons_succ]
  refine wpAnyH_ready (rs := [3]) (by kernel_rfl) (by simp) ?_
  refine cons_q rfl (fun K hK => ?_) AllReadyH.nil
  go_simp
  refine (flatten_c b _).mono ?_; rintro e w1 ⟨rfl, hb1⟩
  refine hK.out _ _ ?_ (fun hHeld => ?_)
  · (first | exact ⟨hHeld.1.after hb1, hHeld.2.1.after hb1, bl_trans hHeld.2.2 hb1⟩ | exact ⟨(by repeat (first | (with_reducible assumption) | (with_reducible refine blk_fill (u := .int .u64 0) (v := .int .u64 0) ?_) | (with_reducible refine Blk.drew ?_) | (with_reducible refine Blk.new' _ _ _ _ (by first | (with_reducible rfl) | (simp; done))) | (with_reducible refine Blk.alloc ?_ _) | (with_reducible refine Blk.after ?_ ‹_›) | (with_reducible refine Blk.far ?_ (by first | (simp; done) | (simp; omega)) _))), (by repeat (first | (with_reducible assumption) | (with_reducible refine blk_fill (u := .int .u64 0) (v := .int .u64 0) ?_) | (with_reducible refine Blk.drew ?_) | (with_reducible refine Blk.new' _ _ _ _ (by first | (with_reducible rfl) | (simp; done))) | (with_reducible refine Blk.alloc ?_ _) | (with_reducible refine Blk.after ?_ ‹_›) | (with_reducible refine Blk.far ?_ (by first | (simp; done) | (simp; omega)) _))), (by repeat (first | (with_reducible exact Below.refl _ _) | (with_reducible assumption) | (with_reducible refine bl_alloc ?_ _) | (with_reducible refine bl_drew ?_) | (with_reducible refine bl_drewN ?_ _) | (with_reducible refine bl_set ?_ (by first | (simp; done) | (simp; omega)) _) | (with_reducible refine bl_trans ?_ ‹_›)))⟩)
  clear hK K
  try simp only [Act.put, List.setIfInBounds_toArray, List.set_cons_zero, List.set_cons_succ]
  refine take_q (i := 4) (v := .bool true) rfl (by kernel_rfl) (by kernel_rfl) (by kernel_rfl) (fun _ _ _ h => h) (Or.inl ⟨by rfl, fun w hSw => by rw [← HF.out]; exact eql_flat rfl rfl rfl⟩) (by assumption) ?_
  try simp only [Act.put, List.setIfInBounds_toArray, List.set_cons_zero, List.set_cons_succ]
  refine take_q (i := 5) (v := ?_) rfl (by kernel_rfl) (by kernel_rfl) (by kernel_rfl) (fun _ _ _ h => h) (Or.inl ⟨by rfl, ?_⟩) (by assumption) ?_
  rotate_left
  · intro w hSw; (try dsimp only at hSw); go_simp; try with_reducible rfl
  try simp only [Act.put, List.setIfInBounds_toArray, List.set_cons_zero, List.set_cons_succ]
  refine take_q (i := 6) (v := ?_) rfl (by kernel_rfl) (by kernel_rfl) (by kernel_rfl) (fun _ _ _ h => h) (Or.inl ⟨by rfl, ?_⟩) (by assumption) ?_
  rotate_left
  · intro w hSw; (try dsimp only at hSw); go_simp; try with_reducible rfl
  try simp only [Act.put, List.setIfInBounds_toArray, List.set_cons_zero, List.set_cons_succ]
  refine take_q (i := 7) (v := _) rfl (by kernel_rfl) (by kernel_rfl) (by kernel_rfl) (fun _ _ _ h => h) (Or.inl ⟨by rfl, fun w hSw => load_fld (j := 5) rfl rfl hSw.1 rfl Tryd.isAgg42⟩) (by assumption) ?_
  try simp only [Act.put, List.setIfInBounds_toArray, List.set_cons_zero, List.set_cons_succ]
  refine take_q (i := 8) (v := ?_) rfl (by kernel_rfl) (by kernel_rfl) (by kernel_rfl) (fun _ _ _ h => h) (Or.inl ⟨by rfl, ?_⟩) (by assumption) ?_
  rotate_left
  · intro w hSw; (try dsimp only at hSw); go_simp; try with_reducible rfl
  try simp only [Act.put, List.setIfInBounds_toArray, List.set_cons_zero, List.set_cons_succ]
  refine take_q (i := 9) (v := _) rfl (by kernel_rfl) (by kernel_rfl) (by kernel_rfl) (fun _ _ _ h => h) (Or.inl ⟨by rfl, fun w hSw => load_fld (j := 5) rfl rfl hSw.2.1 rfl Tryd.isAgg42⟩) (by assumption) ?_
  try simp only [Act.put, List.setIfInBounds_toArray, List.set_cons_zero, List.set_cons_succ]
  refine wpAnyH_ready (rs := [10]) (by kernel_rfl) (by simp) ?_
  refine cons_q rfl (fun K hK => ?_) AllReadyH.nil
  go_simp
  refine (H0.out _ hHeld.2.2).mono ?_; rintro e w1 ⟨rfl, hb1⟩
  refine hK.out _ _ ?_ (fun hHeld => ?_)
  · (first | exact ⟨hHeld.1.after hb1, hHeld.2.1.after hb1, bl_trans hHeld.2.2 hb1⟩ | exact ⟨(by repeat (first | (with_reducible assumption) | (with_reducible refine blk_fill (u := .int .u64 0) (v := .int .u64 0) ?_) | (with_reducible refine Blk.drew ?_) | (with_reducible refine Blk.new' _ _ _ _ (by first | (with_reducible rfl) | (simp; done))) | (with_reducible refine Blk.alloc ?_ _) | (with_reducible refine Blk.after ?_ ‹_›) | (with_reducible refine Blk.far ?_ (by first | (simp; done) | (simp; omega)) _))), (by repeat (first | (with_reducible assumption) | (with_reducible refine blk_fill (u := .int .u64 0) (v := .int .u64 0) ?_) | (with_reducible refine Blk.drew ?_) | (with_reducible refine Blk.new' _ _ _ _ (by first | (with_reducible rfl) | (simp; done))) | (with_reducible refine Blk.alloc ?_ _) | (with_reducible refine Blk.after ?_ ‹_›) | (with_reducible refine Blk.far ?_ (by first | (simp; done) | (simp; omega)) _))), (by repeat (first | (with_reducible exact Below.refl _ _) | (with_reducible assumption) | (with_reducible refine bl_alloc ?_ _) | (with_reducible refine bl_drew ?_) | (with_reducible refine bl_drewN ?_ _) | (with_reducible refine bl_set ?_ (by first | (simp; done) | (simp; omega)) _) | (with_reducible refine bl_trans ?_ ‹_›)))⟩)
  clear hK K
  try simp only [Act.put, List.setIfInBounds_toArray, List.set_cons_zero, List.set_cons_succ]
  refine take_q (i := 11) (v := ?_) rfl (by kernel_rfl) (by kernel_rfl) (by kernel_rfl) (fun _ _ _ h => h) (Or.inl ⟨by rfl, ?_⟩) (by assumption) ?_
  rotate_left
  · intro w hSw; (try dsimp only at hSw); go_simp; try with_reducible rfl
  try simp only [Act.put, List.setIfInBounds_toArray, List.set_cons_zero, List.set_cons_succ]
  refine take_q (i := 12) (v := ?_) rfl (by kernel_rfl) (by kernel_rfl) (by kernel_rfl) (fun _ _ _ h => h) (Or.inl ⟨by rfl, ?_⟩) (by assumption) ?_
  rotate_left
  · intro w hSw; (try dsimp only at hSw); go_simp; try with_reducible rfl
  try simp only [Act.put, List.setIfInBounds_toArray, List.set_cons_zero, List.set_cons_succ]
  refine take_q (i := 13) (v := ?_) rfl (by kernel_rfl) (by kernel_rfl) (by kernel_rfl) (fun _ _ _ h => h) (Or.inl ⟨by rfl, ?_⟩) (by assumption) ?_
  rotate_left
  · intro w hSw; (try dsimp only at hSw); go_simp; try with_reducible rfl
  try simp only [Act.put, List.setIfInBounds_toArray, List.set_cons_zero, List.set_cons_succ]
  refine take_q (i := 14) (v := _) rfl (by kernel_rfl) (by kernel_rfl) (by kernel_rfl) (fun _ _ _ h => h) (Or.inl ⟨by rfl, fun w hSw => load_fld (j := 6) rfl rfl hSw.1 rfl Tryd.isAgg43⟩) (by assumption) ?_
  try simp only [Act.put, List.setIfInBounds_toArray, List.set_cons_zero, List.set_cons_succ]
  refine take_q (i := 15) (v := ?_) rfl (by kernel_rfl) (by kernel_rfl) (by kernel_rfl) (fun _ _ _ h => h) (Or.inl ⟨by rfl, ?_⟩) (by assumption) ?_
  rotate_left
  · intro w hSw; (try dsimp only at hSw); go_simp; try with_reducible rfl
  try simp only [Act.put, List.setIfInBounds_toArray, List.set_cons_zero, List.set_cons_succ]
  refine take_q (i := 16) (v := _) rfl (by kernel_rfl) (by kernel_rfl) (by kernel_rfl) (fun _ _ _ h => h) (Or.inl ⟨by rfl, fun w hSw => load_fld (j := 6) rfl rfl hSw.2.1 rfl Tryd.isAgg43⟩) (by assumption) ?_
  try simp only [Act.put, List.setIfInBounds_toArray, List.set_cons_zero, List.set_cons_succ]
  refine wpAnyH_ready (rs := [17]) (by kernel_rfl) (by simp) ?_
  refine cons_q rfl (fun K hK => ?_) AllReadyH.nil
  go_simp
  refine (H1.out _ hHeld.2.2).mono ?_; rintro e w1 ⟨rfl, hb1⟩
  refine hK.out _ _ ?_ (fun hHeld => ?_)
  · (first | exact ⟨hHeld.1.after hb1, hHeld.2.1.after hb1, bl_trans hHeld.2.2 hb1⟩ | exact ⟨(by repeat (first | (with_reducible assumption) | (with_reducible refine blk_fill (u := .int .u64 0) (v := .int .u64 0) ?_) | (with_reducible refine Blk.drew ?_) | (with_reducible refine Blk.new' _ _ _ _ (by first | (with_reducible rfl) | (simp; done))) | (with_reducible refine Blk.alloc ?_ _) | (with_reducible refine Blk.after ?_ ‹_›) | (with_reducible refine Blk.far ?_ (by first | (simp; done) | (simp; omega)) _))), (by repeat (first | (with_reducible assumption) | (with_reducible refine blk_fill (u := .int .u64 0) (v := .int .u64 0) ?_) | (with_reducible refine Blk.drew ?_) | (with_reducible refine Blk.new' _ _ _ _ (by first | (with_reducible rfl) | (simp; done))) | (with_reducible refine Blk.alloc ?_ _) | (with_reducible refine Blk.after ?_ ‹_›) | (with_reducible refine Blk.far ?_ (by first | (simp; done) | (simp; omega)) _))), (by repeat (first | (with_reducible exact Below.refl _ _) | (with_reducible assumption) | (with_reducible refine bl_alloc ?_ _) | (with_reducible refine bl_drew ?_) | (with_reducible refine bl_drewN ?_ _) | (with_reducible refine bl_set ?_ (by first | (simp; done) | (simp; omega)) _) | (with_reducible refine bl_trans ?_ ‹_›)))⟩)
  clear hK K
  try simp only [Act.put, List.setIfInBounds_toArray, List.set_cons_zero, List.set_cons_succ]
  refine take_q (i := 18) (v := ?_) rfl (by kernel_rfl) (by kernel_rfl) (by kernel_rfl) (fun _ _ _ h => h) (Or.inl ⟨by rfl, ?_⟩) (by assumption) ?_
  rotate_left
  · intro w hSw; (try dsimp only at hSw); go_simp; try with_reducible rfl
  try simp only [Act.put, List.setIfInBounds_toArray, List.set_cons_zero, List.set_cons_succ]
  refine take_q (i := 19) (v := ?_) rfl (by kernel_rfl) (by kernel_rfl) (by kernel_rfl) (fun _ _ _ h => h) (Or.inl ⟨by rfl, ?_⟩) (by assumption) ?_
  rotate_left
  · intro w hSw; (try dsimp only at hSw); go_simp; try with_reducible rfl
  try simp only [Act.put, List.setIfInBounds_toArray, List.set_cons_zero, List.set_cons_succ]
  refine take_q (i := 20) (v := ?_) rfl (by kernel_rfl) (by kernel_rfl) (by kernel_rfl) (fun _ _ _ h => h) (Or.inl ⟨by rfl, ?_⟩) (by assumption) ?_
  rotate_left
  · intro w hSw; (try dsimp only at hSw); go_simp; try with_reducible rfl
  try simp only [Act.put, List.setIfInBounds_toArray, List.set_cons_zero, List.set_cons_succ]
  refine take_q (i := 21) (v := _) rfl (by kernel_rfl) (by kernel_rfl) (by kernel_rfl) (fun _ _ _ h => h) (Or.inl ⟨by rfl, fun w hSw => load_fld (j := 7) rfl rfl hSw.1 rfl Tryd.isAgg42⟩) (by assumption) ?_
  try simp only [Act.put, List.setIfInBounds_toArray, List.set_cons_zero, List.set_cons_succ]
  refine take_q (i := 22) (v := ?_) rfl (by kernel_rfl) (by kernel_rfl) (by kernel_rfl) (fun _ _ _ h => h) (Or.inl ⟨by rfl, ?_⟩) (by assumption) ?_
  rotate_left
  · intro w hSw; (try dsimp only at hSw); go_simp; try with_reducible rfl
  try simp only [Act.put, List.setIfInBounds_toArray, List.set_cons_zero, List.set_cons_succ]
  refine take_q (i := 23) (v := _) rfl (by kernel_rfl) (by kernel_rfl) (by kernel_rfl) (fun _ _ _ h => h) (Or.inl ⟨by rfl, fun w hSw => load_fld (j := 7) rfl rfl hSw.2.1 rfl Tryd.isAgg42⟩) (by assumption) ?_
  try simp only [Act.put, List.setIfInBounds_toArray, List.set_cons_zero, List.set_cons_succ]
  refine wpAnyH_ready (rs := [24]) (by kernel_rfl) (by simp) ?_
  refine cons_q rfl (fun K hK => ?_) AllReadyH.nil
  go_simp
  refine (H2.out _ hHeld.2.2).mono ?_; rintro e w1 ⟨rfl, hb1⟩
  refine hK.out _ _ ?_ (fun hHeld => ?_)
  · (first | exact ⟨hHeld.1.after hb1, hHeld.2.1.after hb1, bl_trans hHeld.2.2 hb1⟩ | exact ⟨(by repeat (first | (with_reducible assumption) | (with_reducible refine blk_fill (u := .int .u64 0) (v := .int .u64 0) ?_) | (with_reducible refine Blk.drew ?_) | (with_reducible refine Blk.new' _ _ _ _ (by first | (with_reducible rfl) | (simp; done))) | (with_reducible refine Blk.alloc ?_ _) | (with_reducible refine Blk.after ?_ ‹_›) | (with_reducible refine Blk.far ?_ (by first | (simp; done) | (simp; omega)) _))), (by repeat (first | (with_reducible assumption) | (with_reducible refine blk_fill (u := .int .u64 0) (v := .int .u64 0) ?_) | (with_reducible refine Blk.drew ?_) | (with_reducible refine Blk.new' _ _ _ _ (by first | (with_reducible rfl) | (simp; done))) | (with_reducible refine Blk.alloc ?_ _) | (with_reducible refine Blk.after ?_ ‹_›) | (with_reducible refine Blk.far ?_ (by first | (simp; done) | (simp; omega)) _))), (by repeat (first | (with_reducible exact Below.refl _ _) | (with_reducible assumption) | (with_reducible refine bl_alloc ?_ _) | (with_reducible refine bl_drew ?_) | (with_reducible refine bl_drewN ?_ _) | (with_reducible refine bl_set ?_ (by first | (simp; done) | (simp; omega)) _) | (with_reducible refine bl_trans ?_ ‹_›)))⟩)
  clear hK K
  try simp only [Act.put, List.setIfInBounds_toArray, List.set_cons_zero, List.set_cons_succ]
  refine take_q (i := 25) (v := ?_) rfl (by kernel_rfl) (by kernel_rfl) (by kernel_rfl) (fun _ _ _ h => h) (Or.inl ⟨by rfl, ?_⟩) (by assumption) ?_
  rotate_left
  · intro w hSw; (try dsimp only at hSw); go_simp; try with_reducible rfl
  try simp only [Act.put, List.setIfInBounds_toArray, List.set_cons_zero, List.set_cons_succ]
  refine take_q (i := 26) (v := ?_) rfl (by kernel_rfl) (by kernel_rfl) (by kernel_rfl) (fun _ _ _ h => h) (Or.inl ⟨by rfl, ?_⟩) (by assumption) ?_
  rotate_left
  · intro w hSw; (try dsimp only at hSw); go_simp; try with_reducible rfl
  try simp only [Act.put, List.setIfInBounds_toArray, List.set_cons_zero, List.set_cons_succ]
  refine take_q (i := 27) (v := ?_) rfl (by kernel_rfl) (by kernel_rfl) (by kernel_rfl) (fun _ _ _ h => h) (Or.inl ⟨by rfl, ?_⟩) (by assumption) ?_
  rotate_left
  · intro w hSw; (try dsimp only at hSw); go_simp; try with_reducible rfl
  try simp only [Act.put, List.setIfInBounds_toArray, List.set_cons_zero, List.set_cons_succ]
  refine take_q (i := 28) (v := _) rfl (by kernel_rfl) (by kernel_rfl) (by kernel_rfl) (fun _ _ _ h => h) (Or.inl ⟨by rfl, fun w hSw => load_fld (j := 11) rfl rfl hSw.1 rfl Tryd.isAgg44⟩) (by assumption) ?_
  try simp only [Act.put, List.setIfInBounds_toArray, List.set_cons_zero, List.set_cons_succ]
  refine take_q (i := 29) (v := ?_) rfl (by kernel_rfl) (by kernel_rfl) (by kernel_rfl) (fun _ _ _ h => h) (Or.inl ⟨by rfl, ?_⟩) (by assumption) ?_
  rotate_left
  · intro w hSw; (try dsimp only at hSw); go_simp; try with_reducible rfl
  try simp only [Act.put, List.setIfInBounds_toArray, List.set_cons_zero, List.set_cons_succ]
  refine take_q (i := 30) (v := _) rfl (by kernel_rfl) (by kernel_rfl) (by kernel_rfl) (fun _ _ _ h => h) (Or.inl ⟨by rfl, fun w hSw => load_fld (j := 11) rfl rfl hSw.2.1 rfl Tryd.isAgg44⟩) (by assumption) ?_
  try simp only [Act.put, List.setIfInBounds_toArray, List.set_cons_zero, List.set_cons_succ]
  refine wpAnyH_ready (rs := [31]) (by kernel_rfl) (by simp) ?_
  refine cons_q rfl (fun K hK => ?_) AllReadyH.nil
  go_simp
  refine (H3.out _ hHeld.2.2).mono ?_; rintro e w1 ⟨rfl, hb1⟩
  refine hK.out _ _ ?_ (fun hHeld => ?_)
  · (first | exact ⟨hHeld.1.after hb1, hHeld.2.1.after hb1, bl_trans hHeld.2.2 hb1⟩ | exact ⟨(by repeat (first | (with_reducible assumption) | (with_reducible refine blk_fill (u := .int .u64 0) (v := .int .u64 0) ?_) | (with_reducible refine Blk.drew ?_) | (with_reducible refine Blk.new' _ _ _ _ (by first | (with_reducible rfl) | (simp; done))) | (with_reducible refine Blk.alloc ?_ _) | (with_reducible refine Blk.after ?_ ‹_›) | (with_reducible refine Blk.far ?_ (by first | (simp; done) | (simp; omega)) _))), (by repeat (first | (with_reducible assumption) | (with_reducible refine blk_fill (u := .int .u64 0) (v := .int .u64 0) ?_) | (with_reducible refine Blk.drew ?_) | (with_reducible refine Blk.new' _ _ _ _ (by first | (with_reducible rfl) | (simp; done))) | (with_reducible refine Blk.alloc ?_ _) | (with_reducible refine Blk.after ?_ ‹_›) | (with_reducible refine Blk.far ?_ (by first | (simp; done) | (simp; omega)) _))), (by repeat (first | (with_reducible exact Below.refl _ _) | (with_reducible assumption) | (with_reducible refine bl_alloc ?_ _) | (with_reducible refine bl_drew ?_) | (with_reducible refine bl_drewN ?_ _) | (with_reducible refine bl_set ?_ (by first | (simp; done) | (simp; omega)) _) | (with_reducible refine bl_trans ?_ ‹_›)))⟩)
  clear hK K
  try simp only [Act.put, List.setIfInBounds_toArray, List.set_cons_zero, List.set_cons_succ]
  refine take_q (i := 32) (v := ?_) rfl (by kernel_rfl) (by kernel_rfl) (by kernel_rfl) (fun _ _ _ h => h) (Or.inl ⟨by rfl, ?_⟩) (by assumption) ?_
  rotate_left
  · intro w hSw; (try dsimp only at hSw); go_simp; try with_reducible rfl
  try simp only [Act.put, List.setIfInBounds_toArray, List.set_cons_zero, List.set_cons_succ]
  refine take_q (i := 33) (v := ?_) rfl (by kernel_rfl) (by kernel_rfl) (by kernel_rfl) (fun _ _ _ h => h) (Or.inl ⟨by rfl, ?_⟩) (by assumption) ?_
  rotate_left
  · intro w hSw; (try dsimp only at hSw); go_simp; try with_reducible rfl
  try simp only [Act.put, List.setIfInBounds_toArray, List.set_cons_zero, List.set_cons_succ]
  refine take_q (i := 34) (v := undef) rfl (by kernel_rfl) (by kernel_rfl) (by kernel_rfl) (fun _ _ _ h => h) (Or.inr ⟨by rfl, rfl⟩) (by assumption) ?_
  try simp only [Act.put, List.setIfInBounds_toArray, List.set_cons_zero, List.set_cons_succ]
  refine take_q (i := 35) (v := undef) rfl (by kernel_rfl) (by kernel_rfl) (by kernel_rfl) (fun _ _ _ h => h) (Or.inr ⟨by rfl, rfl⟩) (by assumption) ?_
  try simp only [Act.put, List.setIfInBounds_toArray, List.set_cons_zero, List.set_cons_succ]
  refine take_q (i := 36) (v := undef) rfl (by kernel_rfl) (by kernel_rfl) (by kernel_rfl) (fun _ _ _ h => h) (Or.inr ⟨by rfl, rfl⟩) (by assumption) ?_
  try simp only [Act.put, List.setIfInBounds_toArray, List.set_cons_zero, List.set_cons_succ]
  refine take_q (i := 37) (v := undef) rfl (by kernel_rfl) (by kernel_rfl) (by kernel_rfl) (fun _ _ _ h => h) (Or.inr ⟨by rfl, rfl⟩) (by assumption) ?_
  try simp only [Act.put, List.setIfInBounds_toArray, List.set_cons_zero, List.set_cons_succ]
  refine take_q (i := 38) (v := undef) rfl (by kernel_rfl) (by kernel_rfl) (by kernel_rfl) (fun _ _ _ h => h) (Or.inr ⟨by rfl, rfl⟩) (by assumption) ?_
  try simp only [Act.put, List.setIfInBounds_toArray, List.set_cons_zero, List.set_cons_succ]
  refine take_q (i := 39) (v := ?_) rfl (by kernel_rfl) (by kernel_rfl) (by kernel_rfl) (fun _ _ _ h => h) (Or.inl ⟨by rfl, ?_⟩) (by assumption) ?_
  rotate_left
  · intro w hSw; (try dsimp only at hSw); go_simp; try with_reducible rfl
  try simp only [Act.put, List.setIfInBounds_toArray, List.set_cons_zero, List.set_cons_succ]
  refine take_q (i := 40) (v := ?_) rfl (by kernel_rfl) (by kernel_rfl) (by kernel_rfl) (fun _ _ _ h => h) (Or.inl ⟨by rfl, ?_⟩) (by assumption) ?_
  rotate_left
  · intro w hSw; (try dsimp only at hSw); go_simp; try with_reducible rfl
  try simp only [Act.put, List.setIfInBounds_toArray, List.set_cons_zero, List.set_cons_succ]
  refine wpAnyH_done (by kernel_rfl) ?_ _
  go_wp2_with fail
  go_ret
  exact ⟨rfl, hHeld.2.2⟩
set_option maxRecDepth 100000 in
set_option maxHeartbeats 1600000 in
theorem same5_c (a b : Ob) (w : World) (hf : flatEq a b = true)
    (h0 : ∀ w', Below w.heap.size w w' → Calls Tryd.prog 63 #[.slice a.fin.a a.fin.n a.fin.c, .slice b.fin.a b.fin.n b.fin.c] w' fun e w'' => e = .returned (.bool true) ∧ Below w'.heap.size w' w'')
    (h1 : ∀ w', Below w.heap.size w w' → Calls Tryd.prog 64 #[.slice a.lab.a a.lab.n a.lab.c, .slice b.lab.a b.lab.n b.lab.c] w' fun e w'' => e = .returned (.bool true) ∧ Below w'.heap.size w' w'')
    (h2 : ∀ w', Below w.heap.size w w' → Calls Tryd.prog 63 #[.slice a.cid.a a.cid.n a.cid.c, .slice b.cid.a b.cid.n b.cid.c] w' fun e w'' => e = .returned (.bool true) ∧ Below w'.heap.size w' w'')
    (h3 : ∀ w', Below w.heap.size w w' → Calls Tryd.prog 65 #[.slice a.fam.a a.fam.n a.fam.c, .slice b.fam.a b.fam.n b.fam.c] w' fun e w'' => e = .returned (.bool true) ∧ Below w'.heap.size w' w'')
    (h4 : ∀ w', Below w.heap.size w w' → Calls Tryd.prog 63 #[.slice a.ips.a a.ips.n a.ips.c, .slice b.ips.a b.ips.n b.ips.c] w' fun e w'' => e = .returned (.bool false) ∧ Below w'.heap.size w' w'') :
    Calls Tryd.prog 32 #[ObjV a, ObjV b] w fun e w' => e = .returned (.bool false) ∧ Below w.heap.size w w' := by
  have HF := Lib.hid hf
  have H0 := Lib.hid h0
  have H1 := Lib.hid h1
  have H2 := Lib.hid h2
  have H3 := Lib.hid h3
  have H4 := Lib.hid h4
  clear hf h0 h1 h2 h3 h4
  rw [ObjV_eq, ObjV_eq]
  go_enter Tryd.func32, Tryd.ntmps32
  go_upto_region 1 with (fail)
  have hA : Blk ((w.alloc (.cells (ObjC a) 46)).alloc (.cells (ObjC b) 46)) w.heap.size 46 (ObjC a) := Blk.alloc (Blk.new _ _ _) _
  have hB : Blk ((w.alloc (.cells (ObjC a) 46)).alloc (.cells (ObjC b) 46)) (w.heap.size + 1) 46 (ObjC b) := Blk.new' _ _ _ _ (by simp)
  have hbel : Below w.heap.size w ((w.alloc (.cells (ObjC a) 46)).alloc (.cells (ObjC b) 46)) := (by repeat (first | (with_reducible exact Below.refl _ _) | (with_reducible assumption) | (with_reducible refine bl_alloc ?_ _) | (with_reducible refine bl_drew ?_) | (with_reducible refine bl_drewN ?_ _) | (with_reducible refine bl_set ?_ (by first | (simp; done) | (simp; omega)) _) | (with_reducible refine bl_trans ?_ ‹_›)))
  generalize (w.alloc (.cells (ObjC a) 46)).alloc (.cells (ObjC b) 46) = wz at *
  refine wp_region_held_drew (S := fun w' => Blk w' w.heap.size 46 (ObjC a) ∧ Blk w' (w.heap.size + 1) 46 (ObjC b) ∧ Below w.heap.size w w') (by kernel_rfl) ?_ (fun hHeld => ?_)
  · (first | exact ⟨hHeld.1.after hb1, hHeld.2.1.after hb1, bl_trans hHeld.2.2 hb1⟩ | exact ⟨(by repeat (first | (with_reducible assumption) | (with_reducible refine blk_fill (u := .int .u64 0) (v := .int .u64 0) ?_) | (with_reducible refine Blk.drew ?_) | (with_reducible refine Blk.new' _ _ _ _ (by first | (with_reducible rfl) | (simp; done))) | (with_reducible refine Blk.alloc ?_ _) | (with_reducible refine Blk.after ?_ ‹_›) | (with_reducible refine Blk.far ?_ (by first | (simp; done) | (simp; omega)) _))), (by repeat (first | (with_reducible assumption) | (with_reducible refine blk_fill (u := .int .u64 0) (v := .int .u64 0) ?_) | (with_reducible refine Blk.drew ?_) | (with_reducible refine Blk.new' _ _ _ _ (by first | (with_reducible rfl) | (simp; done))) | (with_reducible refine Blk.alloc ?_ _) | (with_reducible refine Blk.after ?_ ‹_›) | (with_reducible refine Blk.far ?_ (by first | (simp; done) | (simp; omega)) _))), (by repeat (first | (with_reducible exact Below.refl _ _) | (with_reducible assumption) | (with_reducible refine bl_alloc ?_ _) | (with_reducible refine bl_drew ?_) | (with_reducible refine bl_drewN ?_ _) | (with_reducible refine bl_set ?_ (by first | (simp; done) | (simp; omega)) _) | (with_reducible refine bl_trans ?_ ‹_›)))⟩)
  refine take_q (i := 0) (v := _) rfl (by kernel_rfl) (by kernel_rfl) (by kernel_rfl) (fun _ _ _ h => h) (Or.inl ⟨by rfl, fun w hSw => load_obj rfl rfl hSw.1 rfl⟩) (by assumption) ?_
  try simp only [Act.put, List.setIfInBounds_toArray, List.set_cons_zero, List.set_cons_succ]
  refine take_q (i := 2) (v := _) rfl (by kernel_rfl) (by kernel_rfl) (by kernel_rfl) (fun _ _ _ h => h) (Or.inl ⟨by rfl, fun w hSw => load_obj rfl rfl hSw.2.1 rfl⟩) (by assumption) ?_
  try simp only [Act.put, List.setIfInBounds_toArray, List.set_cons_zero, List.set_cons_succ]
  refine wpAnyH_ready (rs := [1]) (by kernel_rfl) (by simp) ?_
  refine cons_q rfl (fun K hK => ?_) AllReadyH.nil
  go_simp
  refine (flatten_c a _).mono ?_; rintro e w1 ⟨rfl, hb1⟩
  refine hK.out _ _ ?_ (fun hHeld => ?_)
  · (first | exact ⟨hHeld.1.after hb1, hHeld.2.1.after hb1, bl_trans hHeld.2.2 hb1⟩ | exact ⟨(by repeat (first | (with_reducible assumption) | (with_reducible refine blk_fill (u := .int .u64 0) (v := .int .u64 0) ?_) | (with_reducible refine Blk.drew ?_) | (with_reducible refine Blk.new' _ _ _ _ (by first | (with_reducible rfl) | (simp; done))) | (with_reducible refine Blk.alloc ?_ _) | (with_reducible refine Blk.after ?_ ‹_›) | (with_reducible refine Blk.far ?_ (by first | (simp; done) | (simp; omega)) _))), (by repeat (first | (with_reducible assumption) | (with_reducible refine blk_fill (u := .int .u64 0) (v := .int .u64 0) ?_) | (with_reducible refine Blk.drew ?_) | (with_reducible refine Blk.new' _ _ _ _ (by first | (with_reducible rfl) | (simp; done))) | (with_reducible refine Blk.alloc ?_ _) | (with_reducible refine Blk.after ?_ ‹_›) | (with_reducible refine Blk.far ?_ (by first | (simp; done) | (simp; omega)) _))), (by repeat (first | (with_reducible exact Below.refl _ _) | (with_reducible assumption) | (with_reducible refine bl_alloc ?_ _) | (with_reducible refine bl_drew ?_) | (with_reducible refine bl_drewN ?_ _) | (with_reducible refine bl_set ?_ (by first | (simp; done) | (simp; omega)) _) | (with_reducible refine bl_trans ?_ ‹_›)))⟩)
  clear hK K
  try simp only [Act.put, List.setIfInBounds_toArray, List.set_cons_zero, List.set_cons_succ]
  refine wpAnyH_ready (rs := [3]) (by kernel_rfl) (by simp) ?_
  refine cons_q rfl (fun K hK => ?_) AllReadyH.nil
  go_simp
  refine (flatten_c b _).mono ?_; rintro e w1 ⟨rfl, hb1⟩
  refine hK.out _ _ ?_ (fun hHeld => ?_)
  · (first | exact ⟨hHeld.1.after hb1, hHeld.2.1.after hb1, bl_trans hHeld.2.2 hb1⟩ | exact ⟨(by repeat (first | (with_reducible assumption) | (with_reducible refine blk_fill (u := .int .u64 0) (v := .int .u64 0) ?_) | (with_reducible refine Blk.drew ?_) | (with_reducible refine Blk.new' _ _ _ _ (by first | (with_reducible rfl) | (simp; done))) | (with_reducible refine Blk.alloc ?_ _) | (with_reducible refine Blk.after ?_ ‹_›) | (with_reducible refine Blk.far ?_ (by first | (simp; done) | (simp; omega)) _))), (by repeat (first | (with_reducible assumption) | (with_reducible refine blk_fill (u := .int .u64 0) (v := .int .u64 0) ?_) | (with_reducible refine Blk.drew ?_) | (with_reducible refine Blk.new' _ _ _ _ (by first | (with_reducible rfl) | (simp; done))) | (with_reducible refine Blk.alloc ?_ _) | (with_reducible refine Blk.after ?_ ‹_›) | (with_reducible refine Blk.far ?_ (by first | (simp; done) | (simp; omega)) _))), (by repeat (first | (with_reducible exact Below.refl _ _) | (with_reducible assumption) | (with_reducible refine bl_alloc ?_ _) | (with_reducible refine bl_drew ?_) | (with_reducible refine bl_drewN ?_ _) | (with_reducible refine bl_set ?_ (by first | (simp; done) | (simp; omega)) _) | (with_reducible refine bl_trans ?_ ‹_›)))⟩)
  clear hK K
  try simp only [Act.put, List.setIfInBounds_toArray, List.set_cons_zero, List.set_cons_succ]
  refine take_q (i := 4) (v := .bool true) rfl (by kernel_rfl) (by kernel_rfl) (by kernel_rfl) (fun _ _ _ h => h) (Or.inl ⟨by rfl, fun w hSw => by rw [← HF.out]; exact eql_flat rfl rfl rfl⟩) (by assumption) ?_
  try simp only [Act.put, List.setIfInBounds_toArray, List.set_cons_zero, List.set_cons_succ]
  refine take_q (i := 5) (v := ?_) rfl (by kernel_rfl) (by kernel_rfl) (by kernel_rfl) (fun _ _ _ h => h) (Or.inl ⟨by rfl, ?_⟩) (by assumption) ?_
  rotate_left
  · intro w hSw; (try dsimp only at hSw); go_simp; try with_reducible rfl
  try simp only [Act.put, List.setIfInBounds_toArray, List.set_cons_zero, List.set_cons_succ]
  refine take_q (i := 6) (v := ?_) rfl (by kernel_rfl) (by kernel_rfl) (by kernel_rfl) (fun _ _ _ h => h) (Or.inl ⟨by rfl, ?_⟩) (by assumption) ?_
  rotate_left
  · intro w hSw; (try dsimp only at hSw); go_simp; try with_reducible rfl
  try simp only [Act.put, List.setIfInBounds_toArray, List.set_cons_zero, List.set_cons_succ]
  refine take_q (i := 7) (v := _) rfl (by kernel_rfl) (by kernel_rfl) (by kernel_rfl) (fun _ _ _ h => h) (Or.inl ⟨by rfl, fun w hSw => load_fld (j := 5) rfl rfl hSw.1 rfl Tryd.isAgg42⟩) (by assumption) ?_
  try simp only [Act.put, List.setIfInBounds_toArray, List.set_cons_zero, List.set_cons_succ]
  refine take_q (i := 8) (v := ?_) rfl (by kernel_rfl) (by kernel_rfl) (by kernel_rfl) (fun _ _ _ h => h) (Or.inl ⟨by rfl, ?_⟩) (by assumption) ?_
  rotate_left
  · intro w hSw; (try dsimp only at hSw); go_simp; try with_reducible rfl
  try simp only [Act.put, List.setIfInBounds_toArray, List.set_cons_zero, List.set_cons_succ]
  refine take_q (i := 9) (v := _) rfl (by kernel_rfl) (by kernel_rfl) (by kernel_rfl) (fun _ _ _ h => h) (Or.inl ⟨by rfl, fun w hSw => load_fld (j := 5) rfl rfl hSw.2.1 rfl Tryd.isAgg42⟩) (by assumption) ?_
  try simp only [Act.put, List.setIfInBounds_toArray, List.set_cons_zero, List.set_cons_succ]
  refine wpAnyH_ready (rs := [10]) (by kernel_rfl) (by simp) ?_
  refine cons_q rfl (fun K hK => ?_) AllReadyH.nil
  go_simp
  refine (H0.out _ hHeld.2.2).mono ?_; rintro e w1 ⟨rfl, hb1⟩
  refine hK.out _ _ ?_ (fun hHeld => ?_)
  · (first | exact ⟨hHeld.1.after hb1, hHeld.2.1.after hb1, bl_trans hHeld.2.2 hb1⟩ | exact ⟨(by repeat (first | (with_reducible assumption) | (with_reducible refine blk_fill (u := .int .u64 0) (v := .int .u64 0) ?_) | (with_reducible refine Blk.drew ?_) | (with_reducible refine Blk.new' _ _ _ _ (by first | (with_reducible rfl) | (simp; done))) | (with_reducible refine Blk.alloc ?_ _) | (with_reducible refine Blk.after ?_ ‹_›) | (with_reducible refine Blk.far ?_ (by first | (simp; done) | (simp; omega)) _))), (by repeat (first | (with_reducible assumption) | (with_reducible refine blk_fill (u := .int .u64 0) (v := .int .u64 0) ?_) | (with_reducible refine Blk.drew ?_) | (with_reducible refine Blk.new' _ _ _ _ (by first | (with_reducible rfl) | (simp; done))) | (with_reducible refine Blk.alloc ?_ _) | (with_reducible refine Blk.after ?_ ‹_›) | (with_reducible refine Blk.far ?_ (by first | (simp; done) | (simp; omega)) _))), (by repeat (first | (with_reducible exact Below.refl _ _) | (with_reducible assumption) | (with_reducible refine bl_alloc ?_ _) | (with_reducible refine bl_drew ?_) | (with_reducible refine bl_drewN ?_ _) | (with_reducible refine bl_set ?_ (by first | (simp; done) | (simp; omega)) _) | (with_reducible refine bl_trans ?_ ‹_›)))⟩)
  clear hK K
  try simp only [Act.put, List.setIfInBounds_toArray, List.set_cons_zero, List.set_cons_succ]
  refine take_q (i := 11) (v := ?_) rfl (by kernel_rfl) (by kernel_rfl) (by kernel_rfl) (fun _ _ _ h => h) (Or.inl ⟨by rfl, ?_⟩) (by assumption) ?_
  rotate_left
  · intro w hSw; (try dsimp only at hSw); go_simp; try with_reducible rfl
  try simp only [Act.put, List.setIfInBounds_toArray, List.set_cons_zero, List.set_cons_succ]
  refine take_q (i := 12) (v := ?_) rfl (by kernel_rfl) (by kernel_rfl) (by kernel_rfl) (fun _ _ _ h => h) (Or.inl ⟨by rfl, ?_⟩) (by assumption) ?_
  rotate_left
  · intro w hSw; (try dsimp only at hSw); go_simp; try with_reducible rfl
  try simp only [Act.put, List.setIfInBounds_toArray, List.set_cons_zero, List.set_cons_succ]
  refine take_q (i := 13) (v := ?_) rfl (by kernel_rfl) (by kernel_rfl) (by kernel_rfl) (fun _ _ _ h => h) (Or.inl ⟨by rfl, ?_⟩) (by assumption) ?_
  rotate_left
  · intro w hSw; (try dsimp only at hSw); go_simp; try with_reducible rfl
  try simp only [Act.put, List.setIfInBounds_toArray, List.set_cons_zero, List.set_cons_succ]
  refine take_q (i := 14) (v := _) rfl (by kernel_rfl) (by kernel_rfl) (by kernel_rfl) (fun _ _ _ h => h) (Or.inl ⟨by rfl, fun w hSw => load_fld (j := 6) rfl rfl hSw.1 rfl Tryd.isAgg43⟩) (by assumption) ?_
  try simp only [Act.put, List.setIfInBounds_toArray, List.set_cons_zero, List.set_cons_succ]
  refine take_q (i := 15) (v := ?_) rfl (by kernel_rfl) (by kernel_rfl) (by kernel_rfl) (fun _ _ _ h => h) (Or.inl ⟨by rfl, ?_⟩) (by assumption) ?_
  rotate_left
  · intro w hSw; (try dsimp only at hSw); go_simp; try with_reducible rfl
  try simp only [Act.put, List.setIfInBounds_toArray, List.set_cons_zero, List.set_cons_succ]
  refine take_q (i := 16) (v := _) rfl (by kernel_rfl) (by kernel_rfl) (by kernel_rfl) (fun _ _ _ h => h) (Or.inl ⟨by rfl, fun w hSw => load_fld (j := 6) rfl rfl hSw.2.1 rfl Tryd.isAgg43⟩) (by assumption) ?_
  try simp only [Act.put, List.setIfInBounds_toArray, List.set_cons_zero, List.set_cons_succ]
  refine wpAnyH_ready (rs := [17]) (by kernel_rfl) (by simp) ?_
  refine cons_q rfl (fun K hK => ?_) AllReadyH.nil
  go_simp
  refine (H1.out _ hHeld.2.2).mono ?_; rintro e w1 ⟨rfl, hb1⟩
  refine hK.out _ _ ?_ (fun hHeld => ?_)
  · (first | exact ⟨hHeld.1.after hb1, hHeld.2.1.after hb1, bl_trans hHeld.2.2 hb1⟩ | exact ⟨(by repeat (first | (with_reducible assumption) | (with_reducible refine blk_fill (u := .int .u64 0) (v := .int .u64 0) ?_) | (with_reducible refine Blk.drew ?_) | (with_reducible refine Blk.new' _ _ _ _ (by first | (with_reducible rfl) | (simp; done))) | (with_reducible refine Blk.alloc ?_ _) | (with_reducible refine Blk.after ?_ ‹_›) | (with_reducible refine Blk.far ?_ (by first | (simp; done) | (simp; omega)) _))), (by repeat (first | (with_reducible assumption) | (with_reducible refine blk_fill (u := .int .u64 0) (v := .int .u64 0) ?_) | (with_reducible refine Blk.drew ?_) | (with_reducible refine Blk.new' _ _ _ _ (by first | (with_reducible rfl) | (simp; done))) | (with_reducible refine Blk.alloc ?_ _) | (with_reducible refine Blk.after ?_ ‹_›) | (with_reducible refine Blk.far ?_ (by first | (simp; done) | (simp; omega)) _))), (by repeat (first | (with_reducible exact Below.refl _ _) | (with_reducible assumption) | (with_reducible refine bl_alloc ?_ _) | (with_reducible refine bl_drew ?_) | (with_reducible refine bl_drewN ?_ _) | (with_reducible refine bl_set ?_ (by first | (simp; done) | (simp; omega)) _) | (with_reducible refine bl_trans ?_ ‹_›)))⟩)
  clear hK K
  try simp only [Act.put, List.setIfInBounds_toArray, List.set_cons_zero, List.set_cons_succ]
  refine take_q (i := 18) (v := ?_) rfl (by kernel_rfl) (by kernel_rfl) (by kernel_rfl) (fun _ _ _ h => h) (Or.inl ⟨by rfl, ?_⟩) (by assumption) ?_
  rotate_left
  · intro w hSw; (try dsimp only at hSw); go_simp; try with_reducible rfl
  try simp only [Act.put, List.setIfInBounds_toArray, List.set_cons_zero, List.set_cons_succ]
  refine take_q (i := 19) (v := ?_) rfl (by kernel_rfl) (by kernel_rfl) (by kernel_rfl) (fun _ _ _ h => h) (Or.inl ⟨by rfl, ?_⟩) (by assumption) ?_
  rotate_left
  · intro w hSw; (try dsimp only at hSw); go_simp; try with_reducible rfl
  try simp only [Act.put, List.setIfInBounds_toArray, List.set_cons_zero, List.set_cons_succ]
  refine take_q (i := 20) (v := ?_) rfl (by kernel_rfl) (by kernel_rfl) (by kernel_rfl) (fun _ _ _ h => h) (Or.inl ⟨by rfl, ?_⟩) (by assumption) ?_
  rotate_left
  · intro w hSw; (try dsimp only at hSw); go_simp; try with_reducible rfl
  try simp only [Act.put, List.setIfInBounds_toArray, List.set_cons_zero, List.set_cons_succ]
  refine take_q (i := 21) (v := _) rfl (by kernel_rfl) (by kernel_rfl) (by kernel_rfl) (fun _ _ _ h => h) (Or.inl ⟨by rfl, fun w hSw => load_fld (j := 7) rfl rfl hSw.1 rfl Tryd.isAgg42⟩) (by assumption) ?_
  try simp only [Act.put, List.setIfInBounds_toArray, List.set_cons_zero, List.set_cons_succ]
  refine take_q (i := 22) (v := ?_) rfl (by kernel_rfl) (by kernel_rfl) (by kernel_rfl) (fun _ _ _ h => h) (Or.inl ⟨by rfl, ?_⟩) (by assumption) ?_
  rotate_left
  · intro w hSw; (try dsimp only at hSw); go_simp; try with_reducible rfl
  try simp only [Act.put, List.setIfInBounds_toArray, List.set_cons_zero, List.set_cons_succ]
  refine take_q (i := 23) (v := _) rfl (by kernel_rfl) (by kernel_rfl) (by kernel_rfl) (fun _ _ _ h => h) (Or.inl ⟨by rfl, fun w hSw => load_fld (j := 7) rfl rfl hSw.2.1 rfl Tryd.isAgg42⟩) (by assumption) ?_
  try simp only [Act.put, List.setIfInBounds_toArray, List.set_cons_zero, List.set_cons_succ]
  refine wpAnyH_ready (rs := [24]) (by kernel_rfl) (by simp) ?_
  refine cons_q rfl (fun K hK => ?_) AllReadyH.nil
  go_simp
  refine (H2.out _ hHeld.2.2).mono ?_; rintro e w1 ⟨rfl, hb1⟩
  refine hK.out _ _ ?_ (fun hHeld => ?_)
  · (first | exact ⟨hHeld.1.after hb1, hHeld.2.1.after hb1, bl_trans hHeld.2.2 hb1⟩ | exact ⟨(by repeat (first | (with_reducible assumption) | (with_reducible refine blk_fill (u := .int .u64 0) (v := .int .u64 0) ?_) | (with_reducible refine Blk.drew ?_) | (with_reducible refine Blk.new' _ _ _ _ (by first | (with_reducible rfl) | (simp; done))) | (with_reducible refine Blk.alloc ?_ _) | (with_reducible refine Blk.after ?_ ‹_›) | (with_reducible refine Blk.far ?_ (by first | (simp; done) | (simp; omega)) _))), (by repeat (first | (with_reducible assumption) | (with_reducible refine blk_fill (u := .int .u64 0) (v := .int .u64 0) ?_) | (with_reducible refine Blk.drew ?_) | (with_reducible refine Blk.new' _ _ _ _ (by first | (with_reducible rfl) | (simp; done))) | (with_reducible refine Blk.alloc ?_ _) | (with_reducible refine Blk.after ?_ ‹_›) | (with_reducible refine Blk.far ?_ (by first | (simp; done) | (simp; omega)) _))), (by repeat (first | (with_reducible exact Below.refl _ _) | (with_reducible assumption) | (with_reducible refine bl_alloc ?_ _) | (with_reducible refine bl_drew ?_) | (with_reducible refine bl_drewN ?_ _) | (with_reducible refine bl_set ?_ (by first | (simp; done) | (simp; omega)) _) | (with_reducible refine bl_trans ?_ ‹_›)))⟩)
  clear hK K
  try simp only [Act.put, List.setIfInBounds_toArray, List.set_cons_zero, List.set_cons_succ]
  refine take_q (i := 25) (v := ?_) rfl (by kernel_rfl) (by kernel_rfl) (by kernel_rfl) (fun _ _ _ h => h) (Or.inl ⟨by rfl, ?_⟩) (by assumption) ?_
  rotate_left
  · intro w hSw; (try dsimp only at hSw); go_simp; try with_reducible rfl
  try simp only [Act.put, List.setIfInBounds_toArray, List.set_cons_zero, List.set_cons_succ]
  refine take_q (i := 26) (v := ?_) rfl (by kernel_rfl) (by kernel_rfl) (by kernel_rfl) (fun _ _ _ h => h) (Or.inl ⟨by rfl, ?_⟩) (by assumption) ?_
  rotate_left
  · intro w hSw; (try dsimp only at hSw); go_simp; try with_reducible rfl
  try simp only [Act.put, List.setIfInBounds_toArray, List.set_cons_zero, List.set_cons_succ]
  refine take_q (i := 27) (v := ?_) rfl (by kernel_rfl) (by kernel_rfl) (by kernel_rfl) (fun _ _ _ h => h) (Or.inl ⟨by rfl, ?_⟩) (by assumption) ?_
  rotate_left
  · intro w hSw; (try dsimp only at hSw); go_simp; try with_reducible rfl
  try simp only [Act.put, List.setIfInBounds_toArray, List.set_cons_zero, List.set_cons_succ]
  refine take_q (i := 28) (v := _) rfl (by kernel_rfl) (by kernel_rfl) (by kernel_rfl) (fun _ _ _ h => h) (Or.inl ⟨by rfl, fun w hSw => load_fld (j := 11) rfl rfl hSw.1 rfl Tryd.isAgg44⟩) (by assumption) ?_
  try simp only [Act.put, List.setIfInBounds_toArray, List.set_cons_zero, List.set_cons_succ]
  refine take_q (i := 29) (v := ?_) rfl (by kernel_rfl) (by kernel_rfl) (by kernel_rfl) (fun _ _ _ h => h) (Or.inl ⟨by rfl, ?_⟩) (by assumption) ?_
  rotate_left
  · intro w hSw; (try dsimp only at hSw); go_simp; try with_reducible rfl
  try simp only [Act.put, List.setIfInBounds_toArray, List.set_cons_zero, List.set_cons_succ]
  refine take_q (i := 30) (v := _) rfl (by kernel_rfl) (by kernel_rfl) (by kernel_rfl) (fun _ _ _ h => h) (Or.inl ⟨by rfl, fun w hSw => load_fld (j := 11) rfl rfl hSw.2.1 rfl Tryd.isAgg44⟩) (by assumption) ?_
  try simp only [Act.put, List.setIfInBounds_toArray, List.set_cons_zero, List.set_cons_succ]
  refine wpAnyH_ready (rs := [31]) (by kernel_rfl) (by simp) ?_
  refine cons_q rfl (fun K hK => ?_) AllReadyH.nil
  go_simp
  refine (H3.out _ hHeld.2.2).mono ?_; rintro e w1 ⟨rfl, hb1⟩
  refine hK.out _ _ ?_ (fun hHeld => ?_)
  · (first | exact ⟨hHeld.1.after hb1, hHeld.2.1.after hb1, bl_trans hHeld.2.2 hb1⟩ | exact ⟨(by repeat (first | (with_reducible assumption) | (with_reducible refine blk_fill (u := .int .u64 0) (v := .int .u64 0) ?_) | (with_reducible refine Blk.drew ?_) | (with_reducible refine Blk.new' _ _ _ _ (by first | (with_reducible rfl) | (simp; done))) | (with_reducible refine Blk.alloc ?_ _) | (with_reducible refine Blk.after ?_ ‹_›) | (with_reducible refine Blk.far ?_ (by first | (simp; done) | (simp; omega)) _))), (by repeat (first | (with_reducible assumption) | (with_reducible refine blk_fill (u := .int .u64 0) (v := .int .u64 0) ?_) | (with_reducible refine Blk.drew ?_) | (with_reducible refine Blk.new' _ _ _ _ (by first | (with_reducible rfl) | (simp; done))) | (with_reducible refine Blk.alloc ?_ _) | (with_reducible refine Blk.after ?_ ‹_›) | (with_reducible refine Blk.far ?_ (by first | (simp; done) | (simp; omega)) _))), (by repeat (first | (with_reducible exact Below.refl _ _) | (with_reducible assumption) | (with_reducible refine bl_alloc ?_ _) | (with_reducible refine bl_drew ?_) | (with_reducible refine bl_drewN ?_ _) | (with_reducible refine bl_set ?_ (by first | (simp; done) | (simp; omega)) _) | (with_reducible refine bl_trans ?_ ‹_›)))⟩)
  clear hK K
  try simp only [Act.put, List.setIfInBounds_toArray, List.set_cons_zero, List.set_cons_succ]
  refine take_q (i := 32) (v := ?_) rfl (by kernel_rfl) (by kernel_rfl) (by kernel_rfl) (fun _ _ _ h => h) (Or.inl ⟨by rfl, ?_⟩) (by assumption) ?_
  rotate_left
  · intro w hSw; (try dsimp only at hSw); go_simp; try with_reducible rfl
  try simp only [Act.put, List.setIfInBounds_toArray, List.set_cons_zero, List.set_cons_succ]
  refine take_q (i := 33) (v := ?_) rfl (by kernel_rfl) (by kernel_rfl) (by kernel_rfl) (fun _ _ _ h => h) (Or.inl ⟨by rfl, ?_⟩) (by assumption) ?_
  rotate_left
  · intro w hSw; (try dsimp only at hSw); go_simp; try with_reducible rfl
  try simp only [Act.put, List.setIfInBounds_toArray, List.set_cons_zero, List.set_cons_succ]
  refine take_q (i := 34) (v := ?_) rfl (by kernel_rfl) (by kernel_rfl) (by kernel_rfl) (fun _ _ _ h => h) (Or.inl ⟨by rfl, ?_⟩) (by assumption) ?_
  rotate_left
  · intro w hSw; (try dsimp only at hSw); go_simp; try with_reducible rfl
  try simp only [Act.put, List.setIfInBounds_toArray, List.set_cons_zero, List.set_cons_succ]
  refine take_q (i := 35) (v := _) rfl (by kernel_rfl) (by kernel_rfl) (by kernel_rfl) (fun _ _ _ h => h) (Or.inl ⟨by rfl, fun w hSw => load_fld (j := 12) rfl rfl hSw.1 rfl Tryd.isAgg42⟩) (by assumption) ?_
  try simp only [Act.put, List.setIfInBounds_toArray, List.set_cons_zero, List.set_cons_succ]
  refine take_q (i := 36) (v := ?_) rfl (by kernel_rfl) (by kernel_rfl) (by kernel_rfl) (fun _ _ _ h => h) (Or.inl ⟨by rfl, ?_⟩) (by assumption) ?_
  rotate_left
  · intro w hSw; (try dsimp only at hSw); go_simp; try with_reducible rfl
  try simp only [Act.put, List.setIfInBounds_toArray, List.set_cons_zero, List.set_cons_succ]
  refine take_q (i := 37) (v := _) rfl (by kernel_rfl) (by kernel_rfl) (by kernel_rfl) (fun _ _ _ h => h) (Or.inl ⟨by rfl, fun w hSw => load_fld (j := 12) rfl rfl hSw.2.1 rfl Tryd.isAgg42⟩) (by assumption) ?_
  try simp only [Act.put, List.setIfInBounds_toArray, List.set_cons_zero, List.set_cons_succ]
  refine wpAnyH_ready (rs := [38]) (by kernel_rfl) (by simp) ?_
  refine cons_q rfl (fun K hK => ?_) AllReadyH.nil
  go_simp
  refine (H4.out _ hHeld.2.2).mono ?_; rintro e w1 ⟨rfl, hb1⟩
  refine hK.out _ _ ?_ (fun hHeld => ?_)
  · (first | exact ⟨hHeld.1.after hb1, hHeld.2.1.after hb1, bl_trans hHeld.2.2 hb1⟩ | exact ⟨(by repeat (first | (with_reducible assumption) | (with_reducible refine blk_fill (u := .int .u64 0) (v := .int .u64 0) ?_) | (with_reducible refine Blk.drew ?_) | (with_reducible refine Blk.new' _ _ _ _ (by first | (with_reducible rfl) | (simp; done))) | (with_reducible refine Blk.alloc ?_ _) | (with_reducible refine Blk.after ?_ ‹_›) | (with_reducible refine Blk.far ?_ (by first | (simp; done) | (simp; omega)) _))), (by repeat (first | (with_reducible assumption) | (with_reducible refine blk_fill (u := .int .u64 0) (v := .int .u64 0) ?_) | (with_reducible refine Blk.drew ?_) | (with_reducible refine Blk.new' _ _ _ _ (by first | (with_reducible rfl) | (simp; done))) | (with_reducible refine Blk.alloc ?_ _) | (with_reducible refine Blk.after ?_ ‹_›) | (with_reducible refine Blk.far ?_ (by first | (simp; done) | (simp; omega)) _))), (by repeat (first | (with_reducible exact Below.refl _ _) | (with_reducible assumption) | (with_reducible refine bl_alloc ?_ _) | (with_reducible refine bl_drew ?_) | (with_reducible refine bl_drewN ?_ _) | (with_reducible refine bl_set ?_ (by first | (simp; done) | (simp; omega)) _) | (with_reducible refine bl_trans ?_ ‹_›)))⟩)
  clear hK K
  try simp only [Act.put, List.setIfInBounds_toArray, List.set_cons_zero, List.set_cons_succ]
  refine take_q (i := 39) (v := ?_) rfl (by kernel_rfl) (by kernel_rfl) (by kernel_rfl) (fun _ _ _ h => h) (Or.inl ⟨by rfl, ?_⟩) (by assumption) ?_
  rotate_left
  · intro w hSw; (try dsimp only at hSw); go_simp; try with_reducible rfl
  try simp only [Act.put, List.setIfInBounds_toArray, List.set_cons_zero, List.set_cons_succ]
  refine take_q (i := 40) (v := ?_) rfl (by kernel_rfl) (by kernel_rfl) (by kernel_rfl) (fun _ _ _ h => h) (Or.inl ⟨by rfl, ?_⟩) (by assumption) ?_
  rotate_left
  · intro w hSw; (try dsimp only at hSw); go_simp; try with_reducible rfl
  try simp only [Act.put, List.setIfInBounds_toArray, List.set_cons_zero, List.set_cons_succ]
  refine wpAnyH_done (by kernel_rfl) ?_ _
  go_wp2_with fail
  go_ret
  exact ⟨rfl, hHeld.2.2⟩
set_option maxRecDepth 100000 in
set_option maxHeartbeats 1600000 in
theorem same6_c (a b : Ob) (w : World) (hf : flatEq a b = true)
    (h0 : ∀ w', Below w.heap.size w w' → Calls Tryd.prog 63 #[.slice a.fin.a a.fin.n a.fin.c, .slice b.fin.a b.fin.n b.fin.c] w' fun e w'' => e = .returned (.bool true) ∧ Below w'.heap.size w' w'')
    (h1 : ∀ w', Below w.heap.size w w' → Calls Tryd.prog 64 #[.slice a.lab.a a.lab.n a.lab.c, .slice b.lab.a b.lab.n b.lab.c] w' fun e w'' => e = .returned (.bool true) ∧ Below w'.heap.size w' w'')
    (h2 : ∀ w', Below w.heap.size w w' → Calls Tryd.prog 63 #[.slice a.cid.a a.cid.n a.cid.c, .slice b.cid.a b.cid.n b.cid.c] w' fun e w'' => e = .returned (.bool true) ∧ Below w'.heap.size w' w'')
    (h3 : ∀ w', Below w.heap.size w w' → Calls Tryd.prog 65 #[.slice a.fam.a a.fam.n a.fam.c, .slice b.fam.a b.fam.n b.fam.c] w' fun e w'' => e = .returned (.bool true) ∧ Below w'.heap.size w' w'')
    (h4 : ∀ w', Below w.heap.size w w' → Calls Tryd.prog 63 #[.slice a.ips.a a.ips.n a.ips.c, .slice b.ips.a b.ips.n b.ips.c] w' fun e w'' => e = .returned (.bool true) ∧ Below w'.heap.size w' w'') :
    Calls Tryd.prog 32 #[ObjV a, ObjV b] w fun e w' => e = .returned (.bool true) ∧ Below w.heap.size w w' := by
  have HF := Lib.hid hf
  have H0 := Lib.hid h0
  have H1 := Lib.hid h1
  have H2 := Lib.hid h2
  have H3 := Lib.hid h3
  have H4 := Lib.hid h4
  clear hf h0 h1 h2 h3 h4
  rw [ObjV_eq, ObjV_eq]
  go_enter Tryd.func32, Tryd.ntmps32
  go_upto_region 1 with (fail)
  have hA : Blk ((w.alloc (.cells (ObjC a) 46)).alloc (.cells (ObjC b) 46)) w.heap.size 46 (ObjC a) := Blk.alloc (Blk.new _ _ _) _
  have hB : Blk ((w.alloc (.cells (ObjC a) 46)).alloc (.cells (ObjC b) 46)) (w.heap.size + 1) 46 (ObjC b) := Blk.new' _ _ _ _ (by simp)
  have hbel : Below w.heap.size w ((w.alloc (.cells (ObjC a) 46)).alloc (.cells (ObjC b) 46)) := (by repeat (first | (with_reducible exact Below.refl _ _) | (with_reducible assumption) | (with_reducible refine bl_alloc ?_ _) | (with_reducible refine bl_drew ?_) | (with_reducible refine bl_drewN ?_ _) | (with_reducible refine bl_set ?_ (by first | (simp; done) | (simp; omega)) _) | (with_reducible refine bl_trans ?_ ‹_›)))
  generalize (w.alloc (.cells (ObjC a) 46)).alloc (.cells (ObjC b) 46) = wz at *
  refine wp_region_held_drew (S := fun w' => Blk w' w.heap.size 46 (ObjC a) ∧ Blk w' (w.heap.size + 1) 46 (ObjC b) ∧ Below w.heap.size w w') (by kernel_rfl) ?_ (fun hHeld => ?_)
  · (first | exact ⟨hHeld.1.after hb1, hHeld.2.1.after hb1, bl_trans hHeld.2.2 hb1⟩ | exact ⟨(by repeat (first | (with_reducible assumption) | (with_reducible refine blk_fill (u := .int .u64 0) (v := .int .u64 0) ?_) | (with_reducible refine Blk.drew ?_) | (with_reducible refine Blk.new' _ _ _ _ (by first | (with_reducible rfl) | (simp; done))) | (with_reducible refine Blk.alloc ?_ _) | (with_reducible refine Blk.after ?_ ‹_›) | (with_reducible refine Blk.far ?_ (by first | (simp; done) | (simp; omega)) _))), (by repeat (first | (with_reducible assumption) | (with_reducible refine blk_fill (u := .int .u64 0) (v := .int .u64 0) ?_) | (with_reducible refine Blk.drew ?_) | (with_reducible refine Blk.new' _ _ _ _ (by first | (with_reducible rfl) | (simp; done))) | (with_reducible refine Blk.alloc ?_ _) | (with_reducible refine Blk.after ?_ ‹_›) | (with_reducible refine Blk.far ?_ (by first | (simp; done) | (simp; omega)) _))), (by repeat (first | (with_reducible exact Below.refl _ _) | (with_reducible assumption) | (with_reducible refine bl_alloc ?_ _) | (with_reducible refine bl_drew ?_) | (with_reducible refine bl_drewN ?_ _) | (with_reducible refine bl_set ?_ (by first | (simp; done) | (simp; omega)) _) | (with_reducible refine bl_trans ?_ ‹_›)))⟩)
  refine take_q (i := 0) (v := _) rfl (by kernel_rfl) (by kernel_rfl) (by kernel_rfl) (fun _ _ _ h => h) (Or.inl ⟨by rfl, fun w hSw => load_obj rfl rfl hSw.1 rfl⟩) (by assumption) ?_
  try simp only [Act.put, List.setIfInBounds_toArray, List.set_cons_zero, List.set_cons_succ]
  refine take_q (i := 2) (v := _) rfl (by kernel_rfl) (by kernel_rfl) (by kernel_rfl) (fun _ _ _ h => h) (Or.inl ⟨by rfl, fun w hSw => load_obj rfl rfl hSw.2.1 rfl⟩) (by assumption) ?_
  try simp only [Act.put, List.setIfInBounds_toArray, List.set_cons_zero, List.set_cons_succ]
  refine wpAnyH_ready (rs := [1]) (by kernel_rfl) (by simp) ?_
  refine cons_q rfl (fun K hK => ?_) AllReadyH.nil
  go_simp
  refine (flatten_c a _).mono ?_; rintro e w1 ⟨rfl, hb1⟩
  refine hK.out _ _ ?_ (fun hHeld => ?_)
  · (first | exact ⟨hHeld.1.after hb1, hHeld.2.1.after hb1, bl_trans hHeld.2.2 hb1⟩ | exact ⟨(by repeat (first | (with_reducible assumption) | (with_reducible refine blk_fill (u := .int .u64 0) (v := .int .u64 0) ?_) | (with_reducible refine Blk.drew ?_) | (with_reducible refine Blk.new' _ _ _ _ (by first | (with_reducible rfl) | (simp; done))) | (with_reducible refine Blk.alloc ?_ _) | (with_reducible refine Blk.after ?_ ‹_›) | (with_reducible refine Blk.far ?_ (by first | (simp; done) | (simp; omega)) _))), (by repeat (first | (with_reducible assumption) | (with_reducible refine blk_fill (u := .int .u64 0) (v := .int .u64 0) ?_) | (with_reducible refine Blk.drew ?_) | (with_reducible refine Blk.new' _ _ _ _ (by first | (with_reducible rfl) | (simp; done))) | (with_reducible refine Blk.alloc ?_ _) | (with_reducible refine Blk.after ?_ ‹_›) | (with_reducible refine Blk.far ?_ (by first | (simp; done) | (simp; omega)) _))), (by repeat (first | (with_reducible exact Below.refl _ _) | (with_reducible assumption) | (with_reducible refine bl_alloc ?_ _) | (with_reducible refine bl_drew ?_) | (with_reducible refine bl_drewN ?_ _) | (with_reducible refine bl_set ?_ (by first | (simp; done) | (simp; omega)) _) | (with_reducible refine bl_trans ?_ ‹_›)))⟩)
  clear hK K
  try simp only [Act.put, List.setIfInBounds_toArray, List.set_cons_zero, List.set_cons_succ]
  refine wpAnyH_ready (rs := [3]) (by kernel_rfl) (by simp) ?_
  refine cons_q rfl (fun K hK => ?_) AllReadyH.nil
  go_simp
  refine (flatten_c b _).mono ?_; rintro e w1 ⟨rfl, hb1⟩
  refine hK.out _ _ ?_ (fun hHeld => ?_)
  · (first | exact ⟨hHeld.1.after hb1, hHeld.2.1.after hb1, bl_trans hHeld.2.2 hb1⟩ | exact ⟨(by repeat (first | (with_reducible assumption) | (with_reducible refine blk_fill (u := .int .u64 0) (v := .int .u64 0) ?_) | (with_reducible refine Blk.drew ?_) | (with_reducible refine Blk.new' _ _ _ _ (by first | (with_reducible rfl) | (simp; done))) | (with_reducible refine Blk.alloc ?_ _) | (with_reducible refine Blk.after ?_ ‹_›) | (with_reducible refine Blk.far ?_ (by first | (simp; done) | (simp; omega)) _))), (by repeat (first | (with_reducible assumption) | (with_reducible refine blk_fill (u := .int .u64 0) (v := .int .u64 0) ?_) | (with_reducible refine Blk.drew ?_) | (with_reducible refine Blk.new' _ _ _ _ (by first | (with_reducible rfl) | (simp; done))) | (with_reducible refine Blk.alloc ?_ _) | (with_reducible refine Blk.after ?_ ‹_›) | (with_reducible refine Blk.far ?_ (by first | (simp; done) | (simp; omega)) _))), (by repeat (first | (with_reducible exact Below.refl _ _) | (with_reducible assumption) | (with_reducible refine bl_alloc ?_ _) | (with_reducible refine bl_drew ?_) | (with_reducible refine bl_drewN ?_ _) | (with_reducible refine bl_set ?_ (by first | (simp; done) | (simp; omega)) _) | (with_reducible refine bl_trans ?_ ‹_›)))⟩)
  clear hK K
  try simp only [Act.put, List.setIfInBounds_toArray, List.set_cons_zero, List.set_cons_succ]
  refine take_q (i := 4) (v := .bool true) rfl (by kernel_rfl) (by kernel_rfl) (by kernel_rfl) (fun _ _ _ h => h) (Or.inl ⟨by rfl, fun w hSw => by rw [← HF.out]; exact eql_flat rfl rfl rfl⟩) (by assumption) ?_
  try simp only [Act.put, List.setIfInBounds_toArray, List.set_cons_zero, List.set_cons_succ]
  refine take_q (i := 5) (v := ?_) rfl (by kernel_rfl) (by kernel_rfl) (by kernel_rfl) (fun _ _ _ h => h) (Or.inl ⟨by rfl, ?_⟩) (by assumption) ?_
  rotate_left
  · intro w hSw; (try dsimp only at hSw); go_simp; try with_reducible rfl
  try simp only [Act.put, List.setIfInBounds_toArray, List.set_cons_zero, List.set_cons_succ]
  refine take_q (i := 6) (v := ?_) rfl (by kernel_rfl) (by kernel_rfl) (by kernel_rfl) (fun _ _ _ h => h) (Or.inl ⟨by rfl, ?_⟩) (by assumption) ?_
  rotate_left
  · intro w hSw; (try dsimp only at hSw); go_simp; try with_reducible rfl
  try simp only [Act.put, List.setIfInBounds_toArray, List.set_cons_zero, List.set_cons_succ]
  refine take_q (i := 7) (v := _) rfl (by kernel_rfl) (by kernel_rfl) (by kernel_rfl) (fun _ _ _ h => h) (Or.inl ⟨by rfl, fun w hSw => load_fld (j := 5) rfl rfl hSw.1 rfl Tryd.isAgg42⟩) (by assumption) ?_
  try simp only [Act.put, List.setIfInBounds_toArray, List.set_cons_zero, List.set_cons_succ]
  refine take_q (i := 8) (v := ?_) rfl (by kernel_rfl) (by kernel_rfl) (by kernel_rfl) (fun _ _ _ h => h) (Or.inl ⟨by rfl, ?_⟩) (by assumption) ?_
  rotate_left
  · intro w hSw; (try dsimp only at hSw); go_simp; try with_reducible rfl
  try simp only [Act.put, List.setIfInBounds_toArray, List.set_cons_zero, List.set_cons_succ]
  refine take_q (i := 9) (v := _) rfl (by kernel_rfl) (by kernel_rfl) (by kernel_rfl) (fun _ _ _ h => h) (Or.inl ⟨by rfl, fun w hSw => load_fld (j := 5) rfl rfl hSw.2.1 rfl Tryd.isAgg42⟩) (by assumption) ?_
  try simp only [Act.put, List.setIfInBounds_toArray, List.set_cons_zero, List.set_cons_succ]
  refine wpAnyH_ready (rs := [10]) (by kernel_rfl) (by simp) ?_
  refine cons_q rfl (fun K hK => ?_) AllReadyH.nil
  go_simp
  refine (H0.out _ hHeld.2.2).mono ?_; rintro e w1 ⟨rfl, hb1⟩
  refine hK.out _ _ ?_ (fun hHeld => ?_)
  · (first | exact ⟨hHeld.1.after hb1, hHeld.2.1.after hb1, bl_trans hHeld.2.2 hb1⟩ | exact ⟨(by repeat (first | (with_reducible assumption) | (with_reducible refine blk_fill (u := .int .u64 0) (v := .int .u64 0) ?_) | (with_reducible refine Blk.drew ?_) | (with_reducible refine Blk.new' _ _ _ _ (by first | (with_reducible rfl) | (simp; done))) | (with_reducible refine Blk.alloc ?_ _) | (with_reducible refine Blk.after ?_ ‹_›) | (with_reducible refine Blk.far ?_ (by first | (simp; done) | (simp; omega)) _))), (by repeat (first | (with_reducible assumption) | (with_reducible refine blk_fill (u := .int .u64 0) (v := .int .u64 0) ?_) | (with_reducible refine Blk.drew ?_) | (with_reducible refine Blk.new' _ _ _ _ (by first | (with_reducible rfl) | (simp; done))) | (with_reducible refine Blk.alloc ?_ _) | (with_reducible refine Blk.after ?_ ‹_›) | (with_reducible refine Blk.far ?_ (by first | (simp; done) | (simp; omega)) _))), (by repeat (first | (with_reducible exact Below.refl _ _) | (with_reducible assumption) | (with_reducible refine bl_alloc ?_ _) | (with_reducible refine bl_drew ?_) | (with_reducible refine bl_drewN ?_ _) | (with_reducible refine bl_set ?_ (by first | (simp; done) | (simp; omega)) _) | (with_reducible refine bl_trans ?_ ‹_›)))⟩)
  clear hK K
  try simp only [Act.put, List.setIfInBounds_toArray, List.set_cons_zero, List.set_cons_succ]
  refine take_q (i := 11) (v := ?_) rfl (by kernel_rfl) (by kernel_rfl) (by kernel_rfl) (fun _ _ _ h => h) (Or.inl ⟨by rfl, ?_⟩) (by assumption) ?_
  rotate_left
  · intro w hSw; (try dsimp only at hSw); go_simp; try with_reducible rfl
  try simp only [Act.put, List.setIfInBounds_toArray, List.set_cons_zero, List.set_cons_succ]
  refine take_q (i := 12) (v := ?_) rfl (by kernel_rfl) (by kernel_rfl) (by kernel_rfl) (fun _ _ _ h => h) (Or.inl ⟨by rfl, ?_⟩) (by assumption) ?_
  rotate_left
  · intro w hSw; (try dsimp only at hSw); go_simp; try with_reducible rfl
  try simp only [Act.put, List.setIfInBounds_toArray, List.set_cons_zero, List.set_cons_succ]
  refine take_q (i := 13) (v := ?_) rfl (by kernel_rfl) (by kernel_rfl) (by kernel_rfl) (fun _ _ _ h => h) (Or.inl ⟨by rfl, ?_⟩) (by assumption) ?_
  rotate_left
  · intro w hSw; (try dsimp only at hSw); go_simp; try with_reducible rfl
  try simp only [Act.put, List.setIfInBounds_toArray, List.set_cons_zero, List.set_cons_succ]
  refine take_q (i := 14) (v := _) rfl (by kernel_rfl) (by kernel_rfl) (by kernel_rfl) (fun _ _ _ h => h) (Or.inl ⟨by rfl, fun w hSw => load_fld (j := 6) rfl rfl hSw.1 rfl Tryd.isAgg43⟩) (by assumption) ?_
  try simp only [Act.put, List.setIfInBounds_toArray, List.set_cons_zero, List.set_cons_succ]
  refine take_q (i := 15) (v := ?_) rfl (by kernel_rfl) (by kernel_rfl) (by kernel_rfl) (fun _ _ _ h => h) (Or.inl ⟨by rfl, ?_⟩) (by assumption) ?_
  rotate_left
  · intro w hSw; (try dsimp only at hSw); go_simp; try with_reducible rfl
  try simp only [Act.put, List.setIfInBounds_toArray, List.set_cons_zero, List.set_cons_succ]
  refine take_q (i := 16) (v := _) rfl (by kernel_rfl) (by kernel_rfl) (by kernel_rfl) (fun _ _ _ h => h) (Or.inl ⟨by rfl, fun w hSw => load_fld (j := 6) rfl rfl hSw.2.1 rfl Tryd.isAgg43⟩) (by assumption) ?_
  try simp only [Act.put, List.setIfInBounds_toArray, List.set_cons_zero, List.set_cons_succ]
  refine wpAnyH_ready (rs := [17]) (by kernel_rfl) (by simp) ?_
  refine cons_q rfl (fun K hK => ?_) AllReadyH.nil
  go_simp
  refine (H1.out _ hHeld.2.2).mono ?_; rintro e w1 ⟨rfl, hb1⟩
  refine hK.out _ _ ?_ (fun hHeld => ?_)
  · (first | exact ⟨hHeld.1.after hb1, hHeld.2.1.after hb1, bl_trans hHeld.2.2 hb1⟩ | exact ⟨(by repeat (first | (with_reducible assumption) | (with_reducible refine blk_fill (u := .int .u64 0) (v := .int .u64 0) ?_) | (with_reducible refine Blk.drew ?_) | (with_reducible refine Blk.new' _ _ _ _ (by first | (with_reducible rfl) | (simp; done))) | (with_reducible refine Blk.alloc ?_ _) | (with_reducible refine Blk.after ?_ ‹_›) | (with_reducible refine Blk.far ?_ (by first | (simp; done) | (simp; omega)) _))), (by repeat (first | (with_reducible assumption) | (with_reducible refine blk_fill (u := .int .u64 0) (v := .int .u64 0) ?_) | (with_reducible refine Blk.drew ?_) | (with_reducible refine Blk.new' _ _ _ _ (by first | (with_reducible rfl) | (simp; done))) | (with_reducible refine Blk.alloc ?_ _) | (with_reducible refine Blk.after ?_ ‹_›) | (with_reducible refine Blk.far ?_ (by first | (simp; done) | (simp; omega)) _))), (by repeat (first | (with_reducible exact Below.refl _ _) | (with_reducible assumption) | (with_reducible refine bl_alloc ?_ _) | (with_reducible refine bl_drew ?_) | (with_reducible refine bl_drewN ?_ _) | (with_reducible refine bl_set ?_ (by first | (simp; done) | (simp; omega)) _) | (with_reducible refine bl_trans ?_ ‹_›)))⟩)
  clear hK K
  try simp only [Act.put, List.setIfInBounds_toArray, List.set_cons_zero, List.set_cons_succ]
  refine take_q (i := 18) (v := ?_) rfl (by kernel_rfl) (by kernel_rfl) (by kernel_rfl) (fun _ _ _ h => h) (Or.inl ⟨by rfl, ?_⟩) (by assumption) ?_
  rotate_left
  · intro w hSw; (try dsimp only at hSw); go_simp; try with_reducible rfl
  try simp only [Act.put, List.setIfInBounds_toArray, List.set_cons_zero, List.set_cons_succ]
  refine take_q (i := 19) (v := ?_) rfl (by kernel_rfl) (by kernel_rfl) (by kernel_rfl) (fun _ _ _ h => h) (Or.inl ⟨by rfl, ?_⟩) (by assumption) ?_
  rotate_left
  · intro w hSw; (try dsimp only at hSw); go_simp; try with_reducible rfl
  try simp only [Act.put, List.setIfInBounds_toArray, List.set_cons_zero, List.set_cons_succ]
  refine take_q (i := 20) (v := ?_) rfl (by kernel_rfl) (by kernel_rfl) (by kernel_rfl) (fun _ _ _ h => h) (Or.inl ⟨by rfl, ?_⟩) (by assumption) ?_
  rotate_left
  · intro w hSw; (try dsimp only at hSw); go_simp; try with_reducible rfl
  try simp only [Act.put, List.setIfInBounds_toArray, List.set_cons_zero, List.set_cons_succ]
  refine take_q (i := 21) (v := _) rfl (by kernel_rfl) (by kernel_rfl) (by kernel_rfl) (fun _ _ _ h => h) (Or.inl ⟨by rfl, fun w hSw => load_fld (j := 7) rfl rfl hSw.1 rfl Tryd.isAgg42⟩) (by assumption) ?_
  try simp only [Act.put, List.setIfInBounds_toArray, List.set_cons_zero, List.set_cons_succ]
  refine take_q (i := 22) (v := ?_) rfl (by kernel_rfl) (by kernel_rfl) (by kernel_rfl) (fun _ _ _ h => h) (Or.inl ⟨by rfl, ?_⟩) (by assumption) ?_
  rotate_left
  · intro w hSw; (try dsimp only at hSw); go_simp; try with_reducible rfl
  try simp only [Act.put, List.setIfInBounds_toArray, List.set_cons_zero, List.set_cons_succ]
  refine take_q (i := 23) (v := _) rfl (by kernel_rfl) (by kernel_rfl) (by kernel_rfl) (fun _ _ _ h => h) (Or.inl ⟨by rfl, fun w hSw => load_fld (j := 7) rfl rfl hSw.2.1 rfl Tryd.isAgg42⟩) (by assumption) ?_
  try simp only [Act.put, List.setIfInBounds_toArray, List.set_cons_zero, List.set_cons_succ]
  refine wpAnyH_ready (rs := [24]) (by kernel_rfl) (by simp) ?_
  refine cons_q rfl (fun K hK => ?_) AllReadyH.nil
  go_simp
  refine (H2.out _ hHeld.2.2).mono ?_; rintro e w1 ⟨rfl, hb1⟩
  refine hK.out _ _ ?_ (fun hHeld => ?_)
  · (first | exact ⟨hHeld.1.after hb1, hHeld.2.1.after hb1, bl_trans hHeld.2.2 hb1⟩ | exact ⟨(by repeat (first | (with_reducible assumption) | (with_reducible refine blk_fill (u := .int .u64 0) (v := .int .u64 0) ?_) | (with_reducible refine Blk.drew ?_) | (with_reducible refine Blk.new' _ _ _ _ (by first | (with_reducible rfl) | (simp; done))) | (with_reducible refine Blk.alloc ?_ _) | (with_reducible refine Blk.after ?_ ‹_›) | (with_reducible refine Blk.far ?_ (by first | (simp; done) | (simp; omega)) _))), (by repeat (first | (with_reducible assumption) | (with_reducible refine blk_fill (u := .int .u64 0) (v := .int .u64 0) ?_) | (with_reducible refine Blk.drew ?_) | (with_reducible refine Blk.new' _ _ _ _ (by first | (with_reducible rfl) | (simp; done))) | (with_reducible refine Blk.alloc ?_ _) | (with_reducible refine Blk.after ?_ ‹_›) | (with_reducible refine Blk.far ?_ (by first | (simp; done) | (simp; omega)) _))), (by repeat (first | (with_reducible exact Below.refl _ _) | (with_reducible assumption) | (with_reducible refine bl_alloc ?_ _) | (with_reducible refine bl_drew ?_) | (with_reducible refine bl_drewN ?_ _) | (with_reducible refine bl_set ?_ (by first | (simp; done) | (simp; omega)) _) | (with_reducible refine bl_trans ?_ ‹_›)))⟩)
  clear hK K
  try simp only [Act.put, List.setIfInBounds_toArray, List.set_cons_zero, List.set_cons_succ]
  refine take_q (i := 25) (v := ?_) rfl (by kernel_rfl) (by kernel_rfl) (by kernel_rfl) (fun _ _ _ h => h) (Or.inl ⟨by rfl, ?_⟩) (by assumption) ?_
  rotate_left
  · intro w hSw; (try dsimp only at hSw); go_simp; try with_reducible rfl
  try simp only [Act.put, List.setIfInBounds_toArray, List.set_cons_zero, List.set_cons_succ]
  refine take_q (i := 26) (v := ?_) rfl (by kernel_rfl) (by kernel_rfl) (by kernel_rfl) (fun _ _ _ h => h) (Or.inl ⟨by rfl, ?_⟩) (by assumption) ?_
  rotate_left
  · intro w hSw; (try dsimp only at hSw); go_simp; try with_reducible rfl
  try simp only [Act.put, List.setIfInBounds_toArray, List.set_cons_zero, List.set_cons_succ]
  refine take_q (i := 27) (v := ?_) rfl (by kernel_rfl) (by kernel_rfl) (by kernel_rfl) (fun _ _ _ h => h) (Or.inl ⟨by rfl, ?_⟩) (by assumption) ?_
  rotate_left
  · intro w hSw; (try dsimp only at hSw); go_simp; try with_reducible rfl
  try simp only [Act.put, List.setIfInBounds_toArray, List.set_cons_zero, List.set_cons_succ]
  refine take_q (i := 28) (v := _) rfl (by kernel_rfl) (by kernel_rfl) (by kernel_rfl) (fun _ _ _ h => h) (Or.inl ⟨by rfl, fun w hSw => load_fld (j := 11) rfl rfl hSw.1 rfl Tryd.isAgg44⟩) (by assumption) ?_
  try simp only [Act.put, List.setIfInBounds_toArray, List.set_cons_zero, List.set_cons_succ]
  refine take_q (i := 29) (v := ?_) rfl (by kernel_rfl) (by kernel_rfl) (by kernel_rfl) (fun _ _ _ h => h) (Or.inl ⟨by rfl, ?_⟩) (by assumption) ?_
  rotate_left
  · intro w hSw; (try dsimp only at hSw); go_simp; try with_reducible rfl
  try simp only [Act.put, List.setIfInBounds_toArray, List.set_cons_zero, List.set_cons_succ]
  refine take_q (i := 30) (v := _) rfl (by kernel_rfl) (by kernel_rfl) (by kernel_rfl) (fun _ _ _ h => h) (Or.inl ⟨by rfl, fun w hSw => load_fld (j := 11) rfl rfl hSw.2.1 rfl Tryd.isAgg44⟩) (by assumption) ?_
  try simp only [Act.put, List.setIfInBounds_toArray, List.set_cons_zero, List.set_cons_succ]
  refine wpAnyH_ready (rs := [31]) (by kernel_rfl) (by simp) ?_
  refine cons_q rfl (fun K hK => ?_) AllReadyH.nil
  go_simp
  refine (H3.out _ hHeld.2.2).mono ?_; rintro e w1 ⟨rfl, hb1⟩
  refine hK.out _ _ ?_ (fun hHeld => ?_)
  · (first | exact ⟨hHeld.1.after hb1, hHeld.2.1.after hb1, bl_trans hHeld.2.2 hb1⟩ | exact ⟨(by repeat (first | (with_reducible assumption) | (with_reducible refine blk_fill (u := .int .u64 0) (v := .int .u64 0) ?_) | (with_reducible refine Blk.drew ?_) | (with_reducible refine Blk.new' _ _ _ _ (by first | (with_reducible rfl) | (simp; done))) | (with_reducible refine Blk.alloc ?_ _) | (with_reducible refine Blk.after ?_ ‹_›) | (with_reducible refine Blk.far ?_ (by first | (simp; done) | (simp; omega)) _))), (by repeat (first | (with_reducible assumption) | (with_reducible refine blk_fill (u := .int .u64 0) (v := .int .u64 0) ?_) | (with_reducible refine Blk.drew ?_) | (with_reducible refine Blk.new' _ _ _ _ (by first | (with_reducible rfl) | (simp; done))) | (with_reducible refine Blk.alloc ?_ _) | (with_reducible refine Blk.after ?_ ‹_›) | (with_reducible refine Blk.far ?_ (by first | (simp; done) | (simp; omega)) _))), (by repeat (first | (with_reducible exact Below.refl _ _) | (with_reducible assumption) | (with_reducible refine bl_alloc ?_ _) | (with_reducible refine bl_drew ?_) | (with_reducible refine bl_drewN ?_ _) | (with_reducible refine bl_set ?_ (by first | (simp; done) | (simp; omega)) _) | (with_reducible refine bl_trans ?_ ‹_›)))⟩)
  clear hK K
  try simp only [Act.put, List.setIfInBounds_toArray, List.set_cons_zero, List.set_cons_succ]
  refine take_q (i := 32) (v := ?_) rfl (by kernel_rfl) (by kernel_rfl) (by kernel_rfl) (fun _ _ _ h => h) (Or.inl ⟨by rfl, ?_⟩) (by assumption) ?_
  rotate_left
  · intro w hSw; (try dsimp only at hSw); go_simp; try with_reducible rfl
  try simp only [Act.put, List.setIfInBounds_toArray, List.set_cons_zero, List.set_cons_succ]
  refine take_q (i := 33) (v := ?_) rfl (by kernel_rfl) (by kernel_rfl) (by kernel_rfl) (fun _ _ _ h => h) (Or.inl ⟨by rfl, ?_⟩) (by assumption) ?_
  rotate_left
  · intro w hSw; (try dsimp only at hSw); go_simp; try with_reducible rfl
  try simp only [Act.put, List.setIfInBounds_toArray, List.set_cons_zero, List.set_cons_succ]
  refine take_q (i := 34) (v := ?_) rfl (by kernel_rfl) (by kernel_rfl) (by kernel_rfl) (fun _ _ _ h => h) (Or.inl ⟨by rfl, ?_⟩) (by assumption) ?_
  rotate_left
  · intro w hSw; (try dsimp only at hSw); go_simp; try with_reducible rfl
  try simp only [Act.put, List.setIfInBounds_toArray, List.set_cons_zero, List.set_cons_succ]
  refine take_q (i := 35) (v := _) rfl (by kernel_rfl) (by kernel_rfl) (by kernel_rfl) (fun _ _ _ h => h) (Or.inl ⟨by rfl, fun w hSw => load_fld (j := 12) rfl rfl hSw.1 rfl Tryd.isAgg42⟩) (by assumption) ?_
  try simp only [Act.put, List.setIfInBounds_toArray, List.set_cons_zero, List.set_cons_succ]
  refine take_q (i := 36) (v := ?_) rfl (by kernel_rfl) (by kernel_rfl) (by kernel_rfl) (fun _ _ _ h => h) (Or.inl ⟨by rfl, ?_⟩) (by assumption) ?_
  rotate_left
  · intro w hSw; (try dsimp only at hSw); go_simp; try with_reducible rfl
  try simp only [Act.put, List.setIfInBounds_toArray, List.set_cons_zero, List.set_cons_succ]
  refine take_q (i := 37) (v := _) rfl (by kernel_rfl) (by kernel_rfl) (by kernel_rfl) (fun _ _ _ h => h) (Or.inl ⟨by rfl, fun w hSw => load_fld (j := 12) rfl rfl hSw.2.1 rfl Tryd.isAgg42⟩) (by assumption) ?_
  try simp only [Act.put, List.setIfInBounds_toArray, List.set_cons_zero, List.set_cons_succ]
  refine wpAnyH_ready (rs := [38]) (by kernel_rfl) (by simp) ?_
  refine cons_q rfl (fun K hK => ?_) AllReadyH.nil
  go_simp
  refine (H4.out _ hHeld.2.2).mono ?_; rintro e w1 ⟨rfl, hb1⟩
  refine hK.out _ _ ?_ (fun hHeld => ?_)
  · (first | exact ⟨hHeld.1.after hb1, hHeld.2.1.after hb1, bl_trans hHeld.2.2 hb1⟩ | exact ⟨(by repeat (first | (with_reducible assumption) | (with_reducible refine blk_fill (u := .int .u64 0) (v := .int .u64 0) ?_) | (with_reducible refine Blk.drew ?_) | (with_reducible refine Blk.new' _ _ _ _ (by first | (with_reducible rfl) | (simp; done))) | (with_reducible refine Blk.alloc ?_ _) | (with_reducible refine Blk.after ?_ ‹_›) | (with_reducible refine Blk.far ?_ (by first | (simp; done) | (simp; omega)) _))), (by repeat (first | (with_reducible assumption) | (with_reducible refine blk_fill (u := .int .u64 0) (v := .int .u64 0) ?_) | (with_reducible refine Blk.drew ?_) | (with_reducible refine Blk.new' _ _ _ _ (by first | (with_reducible rfl) | (simp; done))) | (with_reducible refine Blk.alloc ?_ _) | (with_reducible refine Blk.after ?_ ‹_›) | (with_reducible refine Blk.far ?_ (by first | (simp; done) | (simp; omega)) _))), (by repeat (first | (with_reducible exact Below.refl _ _) | (with_reducible assumption) | (with_reducible refine bl_alloc ?_ _) | (with_reducible refine bl_drew ?_) | (with_reducible refine bl_drewN ?_ _) | (with_reducible refine bl_set ?_ (by first | (simp; done) | (simp; omega)) _) | (with_reducible refine bl_trans ?_ ‹_›)))⟩)
  clear hK K
  try simp only [Act.put, List.setIfInBounds_toArray, List.set_cons_zero, List.set_cons_succ]
  refine take_q (i := 39) (v := ?_) rfl (by kernel_rfl) (by kernel_rfl) (by kernel_rfl) (fun _ _ _ h => h) (Or.inl ⟨by rfl, ?_⟩) (by assumption) ?_
  rotate_left
  · intro w hSw; (try dsimp only at hSw); go_simp; try with_reducible rfl
  try simp only [Act.put, List.setIfInBounds_toArray, List.set_cons_zero, List.set_cons_succ]
  refine take_q (i := 40) (v := ?_) rfl (by kernel_rfl) (by kernel_rfl) (by kernel_rfl) (fun _ _ _ h => h) (Or.inl ⟨by rfl, ?_⟩) (by assumption) ?_
  rotate_left
  · intro w hSw; (try dsimp only at hSw); go_simp; try with_reducible rfl
  try simp only [Act.put, List.setIfInBounds_toArray, List.set_cons_zero, List.set_cons_succ]
  refine wpAnyH_done (by kernel_rfl) ?_ _
  go_wp2_with fail
  go_ret
  exact ⟨rfl, hHeld.2.2⟩
theorem same_c (a b : Ob) (w : World) (t0 t1 t2 t3 t4 : Bool)
    (h0 : ∀ w', Below w.heap.size w w' → Calls Tryd.prog 63 #[.slice a.fin.a a.fin.n a.fin.c, .slice b.fin.a b.fin.n b.fin.c] w' fun e w'' => e = .returned (.bool t0) ∧ Below w'.heap.size w' w'')
    (h1 : ∀ w', Below w.heap.size w w' → Calls Tryd.prog 64 #[.slice a.lab.a a.lab.n a.lab.c, .slice b.lab.a b.lab.n b.lab.c] w' fun e w'' => e = .returned (.bool t1) ∧ Below w'.heap.size w' w'')
    (h2 : ∀ w', Below w.heap.size w w' → Calls Tryd.prog 63 #[.slice a.cid.a a.cid.n a.cid.c, .slice b.cid.a b.cid.n b.cid.c] w' fun e w'' => e = .returned (.bool t2) ∧ Below w'.heap.size w' w'')
    (h3 : ∀ w', Below w.heap.size w w' → Calls Tryd.prog 65 #[.slice a.fam.a a.fam.n a.fam.c, .slice b.fam.a b.fam.n b.fam.c] w' fun e w'' => e = .returned (.bool t3) ∧ Below w'.heap.size w' w'')
    (h4 : ∀ w', Below w.heap.size w w' → Calls Tryd.prog 63 #[.slice a.ips.a a.ips.n a.ips.c, .slice b.ips.a b.ips.n b.ips.c] w' fun e w'' => e = .returned (.bool t4) ∧ Below w'.heap.size w' w'') :
    Calls Tryd.prog 32 #[ObjV a, ObjV b] w fun e w' => e = .returned (.bool (flatEq a b && (t0 && (t1 && (t2 && (t3 && t4)))))) ∧ Below w.heap.size w w' := by
  cases hf : flatEq a b
  · exact same0_c a b w hf
  cases t0
  · exact same1_c a b w hf h0
  cases t1
  · exact same2_c a b w hf h0 h1
  cases t2
  · exact same3_c a b w hf h0 h1 h2
  cases t3
  · exact same4_c a b w hf h0 h1 h2 h3
  cases t4
  · exact same5_c a b w hf h0 h1 h2 h3 h4
  · exact same6_c a b w hf h0 h1 h2 h3 h4
end Go.Proofs.YtanflcccjjbkgaaDoor
