/- The walk of NumSums. -/
import Derived.Test.YtnhaejbakgjelaaAwk
import Derived.Test.YtnhaejbakgjelaaRefD
import Derived.Test.YtnhaejbakgjelaaLd
namespace Go.Proofs.Ytnhaejbakgjelaa
open Go.RowKit

theorem addN_lt' (a b : Nat) : addN a b < 340282366920938463463374607431768211456 := Nat.mod_lt _ (by omega)
set_option maxHeartbeats 3200000 in
theorem numSums_walk (a b : Nat) (w : World) (ha : a < 340282366920938463463374607431768211456) (hb : b < 340282366920938463463374607431768211456) :
    Calls Try.prog 5 #[numV a, numV b] w fun e w' => e = .returned (.bool true) ∧ Below w.heap.size w w' := by
  go_enter Try.func5, Try.ntmps5
  go_wp2_with fail
  refine (awake_c _).mono ?_
  rintro e w1 ⟨rfl, hb1⟩; obtain ⟨hc1, hf1⟩ := bcell hb1; have hz1 := hb1.size; (try simp only [size_alloc', size_setCell', size_drew'] at hz1); have hs1_0 : w.heap.size < w1.heap.size := (by omega); have hs1_1 : w.heap.size + 1 < w1.heap.size := (by omega)
  go_wp2_with fail
  refine (add_c _ _ _ _ _ (hi_nn _) (hi_lt _) (lo_nn _) (lo_lt _) (hi_nn _) (hi_lt _) (lo_nn _) (lo_lt _)).mono ?_
  rw [num_hi_lo ha, num_hi_lo hb]
  rintro e w2 ⟨rfl, hb2⟩; obtain ⟨hc2, hf2⟩ := bcell hb2; have hz2 := hb2.size; (try simp only [size_alloc', size_setCell', size_drew'] at hz2); have hs2_0 : w.heap.size < w2.heap.size := (by omega); have hs2_1 : w.heap.size + 1 < w2.heap.size := (by omega)
  go_wp2_with fail
  refine (refadd_c a b _ ha hb).mono ?_
  rintro e w3 ⟨rfl, hb3⟩; obtain ⟨hc3, hf3⟩ := bcell hb3; have hz3 := hb3.size; (try simp only [size_alloc', size_setCell', size_drew'] at hz3); have hs3_0 : w.heap.size < w3.heap.size := (by omega); have hs3_1 : w.heap.size + 1 < w3.heap.size := (by omega); have hs3_2 : w2.heap.size < w3.heap.size := (by omega)
  go_wp2_with fail
  refine (sub_c _ _ _ _ _ (hi_nn _) (hi_lt _) (lo_nn _) (lo_lt _) (hi_nn _) (hi_lt _) (lo_nn _) (lo_lt _)).mono ?_
  rw [num_hi_lo ha, num_hi_lo hb]
  rintro e w4 ⟨rfl, hb4⟩; obtain ⟨hc4, hf4⟩ := bcell hb4; have hz4 := hb4.size; (try simp only [size_alloc', size_setCell', size_drew'] at hz4); have hs4_0 : w.heap.size < w4.heap.size := (by omega); have hs4_1 : w.heap.size + 1 < w4.heap.size := (by omega); have hs4_2 : w2.heap.size < w4.heap.size := (by omega); have hs4_3 : w3.heap.size < w4.heap.size := (by omega)
  go_wp2_with fail
  refine (refsub_c a b _ ha hb).mono ?_
  rintro e w5 ⟨rfl, hb5⟩; obtain ⟨hc5, hf5⟩ := bcell hb5; have hz5 := hb5.size; (try simp only [size_alloc', size_setCell', size_drew'] at hz5); have hs5_0 : w.heap.size < w5.heap.size := (by omega); have hs5_1 : w.heap.size + 1 < w5.heap.size := (by omega); have hs5_2 : w2.heap.size < w5.heap.size := (by omega); have hs5_3 : w3.heap.size < w5.heap.size := (by omega); have hs5_4 : w4.heap.size < w5.heap.size := (by omega)
  go_wp2_with fail
  generalize hW : (w5.alloc (.cells #[.int .u64 (hi (subN a b)), .int .u64 (lo (subN a b))] 24)) = W
  have bA : Blk W w.heap.size 24 #[.int .u64 (hi a), .int .u64 (lo a)] := by rw [← hW]; exact (by repeat (first | (with_reducible assumption) | (with_reducible refine blk_fill (u := .int .u64 0) (v := .int .u64 0) ?_) | (with_reducible refine Blk.drew ?_) | (with_reducible refine Blk.new' _ _ _ _ (by first | (with_reducible rfl) | (simp; done))) | (with_reducible refine Blk.alloc ?_ _) | (with_reducible refine Blk.after ?_ ‹_›) | (with_reducible refine Blk.far ?_ (by first | (simp; done) | (simp; omega)) _)))
  have bB : Blk W (w.heap.size + 1) 24 #[.int .u64 (hi b), .int .u64 (lo b)] := by rw [← hW]; exact (by repeat (first | (with_reducible assumption) | (with_reducible refine blk_fill (u := .int .u64 0) (v := .int .u64 0) ?_) | (with_reducible refine Blk.drew ?_) | (with_reducible refine Blk.new' _ _ _ _ (by first | (with_reducible rfl) | (simp; done))) | (with_reducible refine Blk.alloc ?_ _) | (with_reducible refine Blk.after ?_ ‹_›) | (with_reducible refine Blk.far ?_ (by first | (simp; done) | (simp; omega)) _)))
  have bX : Blk W w2.heap.size 24 #[.int .u64 (hi (addN a b)), .int .u64 (lo (addN a b))] := by rw [← hW]; exact (by repeat (first | (with_reducible assumption) | (with_reducible refine blk_fill (u := .int .u64 0) (v := .int .u64 0) ?_) | (with_reducible refine Blk.drew ?_) | (with_reducible refine Blk.new' _ _ _ _ (by first | (with_reducible rfl) | (simp; done))) | (with_reducible refine Blk.alloc ?_ _) | (with_reducible refine Blk.after ?_ ‹_›) | (with_reducible refine Blk.far ?_ (by first | (simp; done) | (simp; omega)) _)))
  have bY : Blk W w3.heap.size 24 #[.int .u64 (hi (addN a b)), .int .u64 (lo (addN a b))] := by rw [← hW]; exact (by repeat (first | (with_reducible assumption) | (with_reducible refine blk_fill (u := .int .u64 0) (v := .int .u64 0) ?_) | (with_reducible refine Blk.drew ?_) | (with_reducible refine Blk.new' _ _ _ _ (by first | (with_reducible rfl) | (simp; done))) | (with_reducible refine Blk.alloc ?_ _) | (with_reducible refine Blk.after ?_ ‹_›) | (with_reducible refine Blk.far ?_ (by first | (simp; done) | (simp; omega)) _)))
  have bZ : Blk W w4.heap.size 24 #[.int .u64 (hi (subN a b)), .int .u64 (lo (subN a b))] := by rw [← hW]; exact (by repeat (first | (with_reducible assumption) | (with_reducible refine blk_fill (u := .int .u64 0) (v := .int .u64 0) ?_) | (with_reducible refine Blk.drew ?_) | (with_reducible refine Blk.new' _ _ _ _ (by first | (with_reducible rfl) | (simp; done))) | (with_reducible refine Blk.alloc ?_ _) | (with_reducible refine Blk.after ?_ ‹_›) | (with_reducible refine Blk.far ?_ (by first | (simp; done) | (simp; omega)) _)))
  have bU : Blk W w5.heap.size 24 #[.int .u64 (hi (subN a b)), .int .u64 (lo (subN a b))] := by rw [← hW]; exact (by repeat (first | (with_reducible assumption) | (with_reducible refine blk_fill (u := .int .u64 0) (v := .int .u64 0) ?_) | (with_reducible refine Blk.drew ?_) | (with_reducible refine Blk.new' _ _ _ _ (by first | (with_reducible rfl) | (simp; done))) | (with_reducible refine Blk.alloc ?_ _) | (with_reducible refine Blk.after ?_ ‹_›) | (with_reducible refine Blk.far ?_ (by first | (simp; done) | (simp; omega)) _)))
  have hbel : Below w.heap.size w W := by rw [← hW]; exact (by repeat (first | (with_reducible exact Below.refl _ _) | (with_reducible assumption) | (with_reducible refine bl_alloc ?_ _) | (with_reducible refine bl_drew ?_) | (with_reducible refine bl_drewN ?_ _) | (with_reducible refine bl_set ?_ (by first | (simp; done) | (simp; omega)) _) | (with_reducible refine bl_trans ?_ ‹_›)))
  clear hW hb1 hc1 hf1 hz1 hs1_0 hs1_1 hb2 hc2 hf2 hz2 hs2_0 hs2_1 hb3 hc3 hf3 hz3 hs3_0 hs3_1 hs3_2 hb4 hc4 hf4 hz4 hs4_0 hs4_1 hs4_2 hs4_3 hb5 hc5 hf5 hz5 hs5_0 hs5_1 hs5_2 hs5_3 hs5_4
  generalize w2.heap.size = gx at *
  generalize w3.heap.size = gy at *
  generalize w4.heap.size = gz at *
  generalize w5.heap.size = gu at *
  generalize addN a b = av at *
  generalize subN a b = sv at *
  generalize addF a b = af at *
  generalize subF a b = sf at *
  refine wp_region_held_drew (S := fun w' => Blk w' w.heap.size 24 #[.int .u64 (hi a), .int .u64 (lo a)] ∧ Blk w' (w.heap.size + 1) 24 #[.int .u64 (hi b), .int .u64 (lo b)] ∧ Blk w' gx 24 #[.int .u64 (hi av), .int .u64 (lo av)] ∧ Blk w' gy 24 #[.int .u64 (hi av), .int .u64 (lo av)] ∧ Blk w' gz 24 #[.int .u64 (hi sv), .int .u64 (lo sv)] ∧ Blk w' gu 24 #[.int .u64 (hi sv), .int .u64 (lo sv)]) (by kernel_rfl) ?_ (fun hHeld => ?_)
  · exact ⟨(by repeat (first | (with_reducible assumption) | (with_reducible refine blk_fill (u := .int .u64 0) (v := .int .u64 0) ?_) | (with_reducible refine Blk.drew ?_) | (with_reducible refine Blk.new' _ _ _ _ (by first | (with_reducible rfl) | (simp; done))) | (with_reducible refine Blk.alloc ?_ _) | (with_reducible refine Blk.after ?_ ‹_›) | (with_reducible refine Blk.far ?_ (by first | (simp; done) | (simp; omega)) _))), (by repeat (first | (with_reducible assumption) | (with_reducible refine blk_fill (u := .int .u64 0) (v := .int .u64 0) ?_) | (with_reducible refine Blk.drew ?_) | (with_reducible refine Blk.new' _ _ _ _ (by first | (with_reducible rfl) | (simp; done))) | (with_reducible refine Blk.alloc ?_ _) | (with_reducible refine Blk.after ?_ ‹_›) | (with_reducible refine Blk.far ?_ (by first | (simp; done) | (simp; omega)) _))), (by repeat (first | (with_reducible assumption) | (with_reducible refine blk_fill (u := .int .u64 0) (v := .int .u64 0) ?_) | (with_reducible refine Blk.drew ?_) | (with_reducible refine Blk.new' _ _ _ _ (by first | (with_reducible rfl) | (simp; done))) | (with_reducible refine Blk.alloc ?_ _) | (with_reducible refine Blk.after ?_ ‹_›) | (with_reducible refine Blk.far ?_ (by first | (simp; done) | (simp; omega)) _))), (by repeat (first | (with_reducible assumption) | (with_reducible refine blk_fill (u := .int .u64 0) (v := .int .u64 0) ?_) | (with_reducible refine Blk.drew ?_) | (with_reducible refine Blk.new' _ _ _ _ (by first | (with_reducible rfl) | (simp; done))) | (with_reducible refine Blk.alloc ?_ _) | (with_reducible refine Blk.after ?_ ‹_›) | (with_reducible refine Blk.far ?_ (by first | (simp; done) | (simp; omega)) _))), (by repeat (first | (with_reducible assumption) | (with_reducible refine blk_fill (u := .int .u64 0) (v := .int .u64 0) ?_) | (with_reducible refine Blk.drew ?_) | (with_reducible refine Blk.new' _ _ _ _ (by first | (with_reducible rfl) | (simp; done))) | (with_reducible refine Blk.alloc ?_ _) | (with_reducible refine Blk.after ?_ ‹_›) | (with_reducible refine Blk.far ?_ (by first | (simp; done) | (simp; omega)) _))), (by repeat (first | (with_reducible assumption) | (with_reducible refine blk_fill (u := .int .u64 0) (v := .int .u64 0) ?_) | (with_reducible refine Blk.drew ?_) | (with_reducible refine Blk.new' _ _ _ _ (by first | (with_reducible rfl) | (simp; done))) | (with_reducible refine Blk.alloc ?_ _) | (with_reducible refine Blk.after ?_ ‹_›) | (with_reducible refine Blk.far ?_ (by first | (simp; done) | (simp; omega)) _)))⟩
  refine take_q (i := 0) (v := _) rfl (by kernel_rfl) (by kernel_rfl) (by kernel_rfl) (fun _ _ _ h => h) (Or.inl ⟨by rfl, fun w hSw => load_num rfl rfl hSw.2.2.1⟩) (by assumption) ?_
  try simp only [Act.put, List.setIfInBounds_toArray, List.set_cons_zero, List.set_cons_succ]
  refine take_q (i := 1) (v := _) rfl (by kernel_rfl) (by kernel_rfl) (by kernel_rfl) (fun _ _ _ h => h) (Or.inl ⟨by rfl, fun w hSw => load_num rfl rfl hSw.2.2.2.1⟩) (by assumption) ?_
  try simp only [Act.put, List.setIfInBounds_toArray, List.set_cons_zero, List.set_cons_succ]
  refine take_q (i := 2) (v := .bool true) rfl (by kernel_rfl) (by kernel_rfl) (by kernel_rfl) (fun _ _ _ h => h) (Or.inl ⟨by rfl, fun w hSw => eql_num rfl rfl rfl⟩) (by assumption) ?_
  try simp only [Act.put, List.setIfInBounds_toArray, List.set_cons_zero, List.set_cons_succ]
  refine take_q (i := 3) (v := ?_) rfl (by kernel_rfl) (by kernel_rfl) (by kernel_rfl) (fun _ _ _ h => h) (Or.inl ⟨by rfl, ?_⟩) (by assumption) ?_
  rotate_left
  · intro w hSw; (try dsimp only at hSw); go_simp; try with_reducible rfl
  try simp only [Act.put, List.setIfInBounds_toArray, List.set_cons_zero, List.set_cons_succ]
  refine take_q (i := 4) (v := ?_) rfl (by kernel_rfl) (by kernel_rfl) (by kernel_rfl) (fun _ _ _ h => h) (Or.inl ⟨by rfl, ?_⟩) (by assumption) ?_
  rotate_left
  · intro w hSw; (try dsimp only at hSw); go_simp; try with_reducible rfl
  try simp only [Act.put, List.setIfInBounds_toArray, List.set_cons_zero, List.set_cons_succ]
  refine take_q (i := 5) (v := ?_) rfl (by kernel_rfl) (by kernel_rfl) (by kernel_rfl) (fun _ _ _ h => h) (Or.inl ⟨by rfl, ?_⟩) (by assumption) ?_
  rotate_left
  · intro w hSw; (try dsimp only at hSw); go_simp; try with_reducible rfl
  try simp only [Act.put, List.setIfInBounds_toArray, List.set_cons_zero, List.set_cons_succ]
  refine take_q (i := 6) (v := ?_) rfl (by kernel_rfl) (by kernel_rfl) (by kernel_rfl) (fun _ _ _ h => h) (Or.inl ⟨by rfl, ?_⟩) (by assumption) ?_
  rotate_left
  · intro w hSw; (try dsimp only at hSw); go_simp; try with_reducible rfl
  try simp only [Act.put, List.setIfInBounds_toArray, List.set_cons_zero, List.set_cons_succ]
  refine take_q (i := 7) (v := ?_) rfl (by kernel_rfl) (by kernel_rfl) (by kernel_rfl) (fun _ _ _ h => h) (Or.inl ⟨by rfl, ?_⟩) (by assumption) ?_
  rotate_left
  · intro w hSw; (try dsimp only at hSw); go_simp; try with_reducible rfl
  try simp only [Act.put, List.setIfInBounds_toArray, List.set_cons_zero, List.set_cons_succ]
  refine take_q (i := 8) (v := ?_) rfl (by kernel_rfl) (by kernel_rfl) (by kernel_rfl) (fun _ _ _ h => h) (Or.inl ⟨by rfl, ?_⟩) (by assumption) ?_
  rotate_left
  · intro w hSw; (try dsimp only at hSw); go_simp; try with_reducible rfl
  try simp only [Act.put, List.setIfInBounds_toArray, List.set_cons_zero, List.set_cons_succ]
  refine take_q (i := 9) (v := _) rfl (by kernel_rfl) (by kernel_rfl) (by kernel_rfl) (fun _ _ _ h => h) (Or.inl ⟨by rfl, fun w hSw => load_num rfl rfl hSw.2.2.2.2.1⟩) (by assumption) ?_
  try simp only [Act.put, List.setIfInBounds_toArray, List.set_cons_zero, List.set_cons_succ]
  refine take_q (i := 10) (v := _) rfl (by kernel_rfl) (by kernel_rfl) (by kernel_rfl) (fun _ _ _ h => h) (Or.inl ⟨by rfl, fun w hSw => load_num rfl rfl hSw.2.2.2.2.2⟩) (by assumption) ?_
  try simp only [Act.put, List.setIfInBounds_toArray, List.set_cons_zero, List.set_cons_succ]
  refine take_q (i := 11) (v := .bool true) rfl (by kernel_rfl) (by kernel_rfl) (by kernel_rfl) (fun _ _ _ h => h) (Or.inl ⟨by rfl, fun w hSw => eql_num rfl rfl rfl⟩) (by assumption) ?_
  try simp only [Act.put, List.setIfInBounds_toArray, List.set_cons_zero, List.set_cons_succ]
  refine take_q (i := 12) (v := ?_) rfl (by kernel_rfl) (by kernel_rfl) (by kernel_rfl) (fun _ _ _ h => h) (Or.inl ⟨by rfl, ?_⟩) (by assumption) ?_
  rotate_left
  · intro w hSw; (try dsimp only at hSw); go_simp; try with_reducible rfl
  try simp only [Act.put, List.setIfInBounds_toArray, List.set_cons_zero, List.set_cons_succ]
  refine take_q (i := 13) (v := ?_) rfl (by kernel_rfl) (by kernel_rfl) (by kernel_rfl) (fun _ _ _ h => h) (Or.inl ⟨by rfl, ?_⟩) (by assumption) ?_
  rotate_left
  · intro w hSw; (try dsimp only at hSw); go_simp; try with_reducible rfl
  try simp only [Act.put, List.setIfInBounds_toArray, List.set_cons_zero, List.set_cons_succ]
  refine take_q (i := 14) (v := ?_) rfl (by kernel_rfl) (by kernel_rfl) (by kernel_rfl) (fun _ _ _ h => h) (Or.inl ⟨by rfl, ?_⟩) (by assumption) ?_
  rotate_left
  · intro w hSw; (try dsimp only at hSw); go_simp; try with_reducible rfl
  try simp only [Act.put, List.setIfInBounds_toArray, List.set_cons_zero, List.set_cons_succ]
  refine take_q (i := 15) (v := ?_) rfl (by kernel_rfl) (by kernel_rfl) (by kernel_rfl) (fun _ _ _ h => h) (Or.inl ⟨by rfl, ?_⟩) (by assumption) ?_
  rotate_left
  · intro w hSw; (try dsimp only at hSw); go_simp; try with_reducible rfl
  try simp only [Act.put, List.setIfInBounds_toArray, List.set_cons_zero, List.set_cons_succ]
  refine take_q (i := 16) (v := ?_) rfl (by kernel_rfl) (by kernel_rfl) (by kernel_rfl) (fun _ _ _ h => h) (Or.inl ⟨by rfl, ?_⟩) (by assumption) ?_
  rotate_left
  · intro w hSw; (try dsimp only at hSw); go_simp; try with_reducible rfl
  try simp only [Act.put, List.setIfInBounds_toArray, List.set_cons_zero, List.set_cons_succ]
  refine take_q (i := 17) (v := ?_) rfl (by kernel_rfl) (by kernel_rfl) (by kernel_rfl) (fun _ _ _ h => h) (Or.inl ⟨by rfl, ?_⟩) (by assumption) ?_
  rotate_left
  · intro w hSw; (try dsimp only at hSw); go_simp; try with_reducible rfl
  try simp only [Act.put, List.setIfInBounds_toArray, List.set_cons_zero, List.set_cons_succ]
  refine take_q (i := 18) (v := ?_) rfl (by kernel_rfl) (by kernel_rfl) (by kernel_rfl) (fun _ _ _ h => h) (Or.inl ⟨by rfl, ?_⟩) (by assumption) ?_
  rotate_left
  · intro w hSw; (try dsimp only at hSw); go_simp; try with_reducible rfl
  try simp only [Act.put, List.setIfInBounds_toArray, List.set_cons_zero, List.set_cons_succ]
  refine take_q (i := 19) (v := _) rfl (by kernel_rfl) (by kernel_rfl) (by kernel_rfl) (fun _ _ _ h => h) (Or.inl ⟨by rfl, fun w hSw => load_num rfl rfl hSw.1⟩) (by assumption) ?_
  try simp only [Act.put, List.setIfInBounds_toArray, List.set_cons_zero, List.set_cons_succ]
  refine take_q (i := 20) (v := _) rfl (by kernel_rfl) (by kernel_rfl) (by kernel_rfl) (fun _ _ _ h => h) (Or.inl ⟨by rfl, fun w hSw => load_num rfl rfl hSw.2.1⟩) (by assumption) ?_
  try simp only [Act.put, List.setIfInBounds_toArray, List.set_cons_zero, List.set_cons_succ]
  refine take_q (i := 22) (v := _) rfl (by kernel_rfl) (by kernel_rfl) (by kernel_rfl) (fun _ _ _ h => h) (Or.inl ⟨by rfl, fun w hSw => load_num rfl rfl hSw.1⟩) (by assumption) ?_
  try simp only [Act.put, List.setIfInBounds_toArray, List.set_cons_zero, List.set_cons_succ]
  refine take_q (i := 23) (v := _) rfl (by kernel_rfl) (by kernel_rfl) (by kernel_rfl) (fun _ _ _ h => h) (Or.inl ⟨by rfl, fun w hSw => load_num rfl rfl hSw.2.1⟩) (by assumption) ?_
  try simp only [Act.put, List.setIfInBounds_toArray, List.set_cons_zero, List.set_cons_succ]
  refine wpAnyH_ready (rs := [21]) (by kernel_rfl) (by simp) ?_
  refine cons_q rfl (fun K hK => ?_) AllReadyH.nil
  go_simp
  (go_at_call 21; refine (cmp_c _ _ _ _ _ (hi_nn _) (hi_lt _) (lo_nn _) (lo_lt _) (hi_nn _) (hi_lt _) (lo_nn _) (lo_lt _)).mono ?_; rw [num_hi_lo ha, num_hi_lo hb]; rintro e wp ⟨rfl, hbc⟩)
  refine hK.out _ _ ?_ (fun hHeld => ?_)
  · exact ⟨(by repeat (first | (with_reducible assumption) | (with_reducible refine blk_fill (u := .int .u64 0) (v := .int .u64 0) ?_) | (with_reducible refine Blk.drew ?_) | (with_reducible refine Blk.new' _ _ _ _ (by first | (with_reducible rfl) | (simp; done))) | (with_reducible refine Blk.alloc ?_ _) | (with_reducible refine Blk.after ?_ ‹_›) | (with_reducible refine Blk.far ?_ (by first | (simp; done) | (simp; omega)) _))), (by repeat (first | (with_reducible assumption) | (with_reducible refine blk_fill (u := .int .u64 0) (v := .int .u64 0) ?_) | (with_reducible refine Blk.drew ?_) | (with_reducible refine Blk.new' _ _ _ _ (by first | (with_reducible rfl) | (simp; done))) | (with_reducible refine Blk.alloc ?_ _) | (with_reducible refine Blk.after ?_ ‹_›) | (with_reducible refine Blk.far ?_ (by first | (simp; done) | (simp; omega)) _))), (by repeat (first | (with_reducible assumption) | (with_reducible refine blk_fill (u := .int .u64 0) (v := .int .u64 0) ?_) | (with_reducible refine Blk.drew ?_) | (with_reducible refine Blk.new' _ _ _ _ (by first | (with_reducible rfl) | (simp; done))) | (with_reducible refine Blk.alloc ?_ _) | (with_reducible refine Blk.after ?_ ‹_›) | (with_reducible refine Blk.far ?_ (by first | (simp; done) | (simp; omega)) _))), (by repeat (first | (with_reducible assumption) | (with_reducible refine blk_fill (u := .int .u64 0) (v := .int .u64 0) ?_) | (with_reducible refine Blk.drew ?_) | (with_reducible refine Blk.new' _ _ _ _ (by first | (with_reducible rfl) | (simp; done))) | (with_reducible refine Blk.alloc ?_ _) | (with_reducible refine Blk.after ?_ ‹_›) | (with_reducible refine Blk.far ?_ (by first | (simp; done) | (simp; omega)) _))), (by repeat (first | (with_reducible assumption) | (with_reducible refine blk_fill (u := .int .u64 0) (v := .int .u64 0) ?_) | (with_reducible refine Blk.drew ?_) | (with_reducible refine Blk.new' _ _ _ _ (by first | (with_reducible rfl) | (simp; done))) | (with_reducible refine Blk.alloc ?_ _) | (with_reducible refine Blk.after ?_ ‹_›) | (with_reducible refine Blk.far ?_ (by first | (simp; done) | (simp; omega)) _))), (by repeat (first | (with_reducible assumption) | (with_reducible refine blk_fill (u := .int .u64 0) (v := .int .u64 0) ?_) | (with_reducible refine Blk.drew ?_) | (with_reducible refine Blk.new' _ _ _ _ (by first | (with_reducible rfl) | (simp; done))) | (with_reducible refine Blk.alloc ?_ _) | (with_reducible refine Blk.after ?_ ‹_›) | (with_reducible refine Blk.far ?_ (by first | (simp; done) | (simp; omega)) _)))⟩
  clear hK K
  try simp only [Act.put, List.setIfInBounds_toArray, List.set_cons_zero, List.set_cons_succ]
  refine wpAnyH_ready (rs := [24]) (by kernel_rfl) (by simp) ?_
  refine cons_q rfl (fun K hK => ?_) AllReadyH.nil
  go_simp
  (go_at_call 22; refine (refcmp_c a b _ ha hb).mono ?_; rintro e wr ⟨rfl, hbr⟩)
  refine hK.out _ _ ?_ (fun hHeld => ?_)
  · exact ⟨(by repeat (first | (with_reducible assumption) | (with_reducible refine blk_fill (u := .int .u64 0) (v := .int .u64 0) ?_) | (with_reducible refine Blk.drew ?_) | (with_reducible refine Blk.new' _ _ _ _ (by first | (with_reducible rfl) | (simp; done))) | (with_reducible refine Blk.alloc ?_ _) | (with_reducible refine Blk.after ?_ ‹_›) | (with_reducible refine Blk.far ?_ (by first | (simp; done) | (simp; omega)) _))), (by repeat (first | (with_reducible assumption) | (with_reducible refine blk_fill (u := .int .u64 0) (v := .int .u64 0) ?_) | (with_reducible refine Blk.drew ?_) | (with_reducible refine Blk.new' _ _ _ _ (by first | (with_reducible rfl) | (simp; done))) | (with_reducible refine Blk.alloc ?_ _) | (with_reducible refine Blk.after ?_ ‹_›) | (with_reducible refine Blk.far ?_ (by first | (simp; done) | (simp; omega)) _))), (by repeat (first | (with_reducible assumption) | (with_reducible refine blk_fill (u := .int .u64 0) (v := .int .u64 0) ?_) | (with_reducible refine Blk.drew ?_) | (with_reducible refine Blk.new' _ _ _ _ (by first | (with_reducible rfl) | (simp; done))) | (with_reducible refine Blk.alloc ?_ _) | (with_reducible refine Blk.after ?_ ‹_›) | (with_reducible refine Blk.far ?_ (by first | (simp; done) | (simp; omega)) _))), (by repeat (first | (with_reducible assumption) | (with_reducible refine blk_fill (u := .int .u64 0) (v := .int .u64 0) ?_) | (with_reducible refine Blk.drew ?_) | (with_reducible refine Blk.new' _ _ _ _ (by first | (with_reducible rfl) | (simp; done))) | (with_reducible refine Blk.alloc ?_ _) | (with_reducible refine Blk.after ?_ ‹_›) | (with_reducible refine Blk.far ?_ (by first | (simp; done) | (simp; omega)) _))), (by repeat (first | (with_reducible assumption) | (with_reducible refine blk_fill (u := .int .u64 0) (v := .int .u64 0) ?_) | (with_reducible refine Blk.drew ?_) | (with_reducible refine Blk.new' _ _ _ _ (by first | (with_reducible rfl) | (simp; done))) | (with_reducible refine Blk.alloc ?_ _) | (with_reducible refine Blk.after ?_ ‹_›) | (with_reducible refine Blk.far ?_ (by first | (simp; done) | (simp; omega)) _))), (by repeat (first | (with_reducible assumption) | (with_reducible refine blk_fill (u := .int .u64 0) (v := .int .u64 0) ?_) | (with_reducible refine Blk.drew ?_) | (with_reducible refine Blk.new' _ _ _ _ (by first | (with_reducible rfl) | (simp; done))) | (with_reducible refine Blk.alloc ?_ _) | (with_reducible refine Blk.after ?_ ‹_›) | (with_reducible refine Blk.far ?_ (by first | (simp; done) | (simp; omega)) _)))⟩
  clear hK K
  try simp only [Act.put, List.setIfInBounds_toArray, List.set_cons_zero, List.set_cons_succ]
  refine take_q (i := 25) (v := ?_) rfl (by kernel_rfl) (by kernel_rfl) (by kernel_rfl) (fun _ _ _ h => h) (Or.inl ⟨by rfl, ?_⟩) (by assumption) ?_
  rotate_left
  · intro w hSw; (try dsimp only at hSw); go_simp; try with_reducible rfl
  try simp only [Act.put, List.setIfInBounds_toArray, List.set_cons_zero, List.set_cons_succ]
  refine take_q (i := 26) (v := ?_) rfl (by kernel_rfl) (by kernel_rfl) (by kernel_rfl) (fun _ _ _ h => h) (Or.inl ⟨by rfl, ?_⟩) (by assumption) ?_
  rotate_left
  · intro w hSw; (try dsimp only at hSw); go_simp; try with_reducible rfl
  try simp only [Act.put, List.setIfInBounds_toArray, List.set_cons_zero, List.set_cons_succ]
  refine take_q (i := 27) (v := ?_) rfl (by kernel_rfl) (by kernel_rfl) (by kernel_rfl) (fun _ _ _ h => h) (Or.inl ⟨by rfl, ?_⟩) (by assumption) ?_
  rotate_left
  · intro w hSw; (try dsimp only at hSw); go_simp; try with_reducible rfl
  try simp only [Act.put, List.setIfInBounds_toArray, List.set_cons_zero, List.set_cons_succ]
  refine wpAnyH_done (by kernel_rfl) ?_ _
  go_wp2_with fail
  go_ret
  exact ⟨rfl, bl_trans (bl_trans (bl_drew hbel) hbc) hbr⟩
end Go.Proofs.Ytnhaejbakgjelaa
