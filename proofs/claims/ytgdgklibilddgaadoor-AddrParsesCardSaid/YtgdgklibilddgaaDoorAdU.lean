/- Addresses: the program's reading of bytes. -/
import Derived.Test.YtgdgklibilddgaaDoorAdK
import Derived.Test.YtgdgklibilddgaaDoorAdL
import Derived.Test.YtgdgklibilddgaaDoorLd
namespace Go.Proofs.YtgdgklibilddgaaDoor
open Go.RowKit

/-- a text's bytes as numbers -/
def nums (s : ByteArray) : List Nat := (bts s).map UInt8.toNat
theorem nums_len (s : ByteArray) : (nums s).length = s.size := by simp [nums, bts]
theorem nums_lt (s : ByteArray) : ∀ b ∈ nums s, b < 256 := by
  intro b hb
  obtain ⟨c, _, rfl⟩ := List.mem_map.1 hb
  exact c.toNat_lt
theorem nums_at (s : ByteArray) (k : Nat) (h : k < s.size) : (nums s)[k]? = some (s[k]'h).toNat := by
  have hl : k < (bts s).length := by simpa [bts] using h
  simp only [nums, List.getElem?_map, List.getElem?_eq_getElem hl, Option.map_some]
  rfl
set_option maxRecDepth 100000 in
theorem aofbytes_bad (s : ByteArray) (w : World) (hs : s.size ≤ 1000000) (h4 : s.size ≠ 4) (h16 : s.size ≠ 16) :
    Calls Tryd.prog 14 #[.string s] w fun e w' => e = .returned (.tuple #[AddrV false 0, .int .i64 4]) ∧ Below w.heap.size w w' := by
  have d1 : (8 * (s.size : Int) == 32) = false := by simp; omega
  have d2 : (8 * (s.size : Int) == 128) = false := by simp; omega
  have d3 : (8 * (s.size : Int) != 32) = true := by simp; omega
  have d4 : (8 * (s.size : Int) != 128) = true := by simp; omega
  have hv : AddrV false 0 = .agg #[.bool false, .int .u64 0, .int .u64 0] := rfl
  rw [hv]
  go_enter Tryd.func14, Tryd.ntmps14
  go_wp2_with fail
  have hR : Blk (w.alloc (Obj.cells #[.bool false, .int .u64 0, .int .u64 0] 26)) (w.heap.size) 26 (AddrC false 0) := (Blk.new' _ _ _ _ (by simp) : Blk (w.alloc (Obj.cells #[.bool false, .int .u64 0, .int .u64 0] 26)) (w.heap.size) 26 (AddrC false 0))
  have hbel : Below w.heap.size w (w.alloc (Obj.cells #[.bool false, .int .u64 0, .int .u64 0] 26)) := (by repeat (first | (with_reducible exact Below.refl _ _) | (with_reducible assumption) | (with_reducible refine bl_alloc ?_ _) | (with_reducible refine bl_drew ?_) | (with_reducible refine bl_drewN ?_ _) | (with_reducible refine bl_set ?_ (by first | (simp; done) | (simp; omega)) _) | (with_reducible refine bl_trans ?_ ‹_›)))
  have hsz : (w.alloc (Obj.cells #[.bool false, .int .u64 0, .int .u64 0] 26)).heap.size = w.heap.size + 1 := by simp
  generalize w.alloc (Obj.cells #[.bool false, .int .u64 0, .int .u64 0] 26) = w0 at *
  obtain ⟨r0, r1, r2, _⟩ := blk_adr hR
  have x0 := hR.frozen 0
  have x1 := hR.frozen 1
  have x2 := hR.frozen 2
  rw [hi_zero] at r1
  rw [lo_zero] at r2
  refine bodyPost_ret (v := .tuple #[.agg #[.bool false, .int .u64 0, .int .u64 0], .int .i64 4]) (by simp [results, Tryd.results14, go_sem, r0, r1, r2, hi_zero, lo_zero]) rfl ⟨rfl, (by repeat (first | (with_reducible exact Below.refl _ _) | (with_reducible assumption) | (with_reducible refine bl_alloc ?_ _) | (with_reducible refine bl_drew ?_) | (with_reducible refine bl_drewN ?_ _) | (with_reducible refine bl_set ?_ (by first | (simp; done) | (simp; omega)) _) | (with_reducible refine bl_trans ?_ ‹_›)))⟩
theorem valB_snoc' (t : List Nat) (k : Nat) : valB (t ++ [k]) = valB t * 256 + k := by unfold valB; rw [List.foldl_append]; show 256 * _ + k = _; omega
theorem take_room {B : List Nat} (hB : ∀ b ∈ B, b < 256) {k : Nat} (hk : k < 16) : valB (B.take k) * 256 < 340282366920938463463374607431768211456 := by
  have h1 := valB_lt' (B.take k) (fun b hb => hB b (List.mem_of_mem_take hb))
  have h2 : 256 ^ (B.take k).length ≤ 256 ^ 15 := Nat.pow_le_pow_right (by omega) (by simp; omega)
  have h3 : valB (B.take k) < 256 ^ 15 := Nat.lt_of_lt_of_le h1 h2
  have h4 : valB (B.take k) * 256 < 256 ^ 15 * 256 := Nat.mul_lt_mul_of_pos_right h3 (by omega)
  exact h4
theorem or_step {x d : Nat} (hx : x * 256 < 340282366920938463463374607431768211456) (hd : d < 256) :
    (∀ w : World, Calls Tryd.prog 42 #[.agg #[.int .u64 (hi x), .int .u64 (lo x)], .int .i64 8] w fun e w' => e = .returned (numV (shlN x 8)) ∧ Below w.heap.size w w') ∧
    (∀ w : World, Calls Tryd.prog 43 #[.int .u64 (d : Nat)] w fun e w' => e = .returned (numV d) ∧ Below w.heap.size w w') ∧
    (∀ w : World, Calls Tryd.prog 41 #[numV (shlN x 8), numV d] w fun e w' => e = .returned (numV (x * 256 + d)) ∧ Below w.heap.size w w') := by
  have hsh : shlN x 8 = x * 256 := by
    have h := shl_or (x := x) (k := 8) (d := 0) hx (by omega) (by omega)
    rw [Nat.or_zero, Nat.add_zero] at h
    exact h
  refine ⟨fun w => ?_, fun w => ?_, fun w => ?_⟩
  · have h := shl_c (hi x) (lo x) 8 w (hi_nn _) (hi_lt _) (lo_nn _) (lo_lt _) (by omega)
    rw [num_hi_lo (by omega)] at h
    exact h
  · have h := of_c (d : Int) w (by omega) (by omega)
    rw [Int.toNat_natCast] at h
    exact h
  · have h := orn_c (shlN x 8) d w (by rw [hsh]; exact hx) (by omega)
    have e1 : shlN x 8 ||| d = x * 256 + d := shl_or (x := x) (k := 8) (d := d) hx (by omega) hd
    rw [e1] at h
    exact h
set_option maxRecDepth 100000 in
set_option maxHeartbeats 3200000 in
theorem aofbytes_ok (s : ByteArray) (n : Nat) (w : World) (hs : s.size = n) (hn : n = 4 ∨ n = 16) :
    Calls Tryd.prog 14 #[.string s] w fun e w' => e = .returned (.tuple #[AddrV (n == 16) (valB (nums s)), .int .i64 0]) ∧ Below w.heap.size w w' := by
  have HB := Lib.hid (nums_lt s)
  have HAT := Lib.hid (nums_at s)
  have HL : Hid ((nums s).length = n) := Lib.hid (by rw [nums_len, hs])
  have hn16 : n ≤ 16 := by omega
  have hsi : (s.size : Int) = n := by omega
  rcases hn with rfl | rfl
  · have hv : (((4 : Nat) == 16) : Bool) = false := by decide
    rw [hv]
    have e8 : 8 * (s.size : Int) = 32 := by omega
    go_enter Tryd.func14, Tryd.ntmps14
    go_wp2_with fail
    have hR : Blk ((w.alloc (Obj.cells #[.bool false, .int .u64 0, .int .u64 0] 26)).alloc (Obj.cells #[.bool false, .int .u64 0, .int .u64 0] 26)) (w.heap.size) 26 (AddrC false 0) := ((Blk.new' _ _ _ _ (by simp) : Blk (w.alloc (Obj.cells #[.bool false, .int .u64 0, .int .u64 0] 26)) (w.heap.size) 26 (AddrC false 0))).alloc _
    have hA : Blk ((w.alloc (Obj.cells #[.bool false, .int .u64 0, .int .u64 0] 26)).alloc (Obj.cells #[.bool false, .int .u64 0, .int .u64 0] 26)) (w.heap.size + 1) 26 (AddrC false 0) := (Blk.new' _ _ _ _ (by simp) : Blk ((w.alloc (Obj.cells #[.bool false, .int .u64 0, .int .u64 0] 26)).alloc (Obj.cells #[.bool false, .int .u64 0, .int .u64 0] 26)) (w.heap.size + 1) 26 (AddrC false 0))
    have hbel : Below w.heap.size w ((w.alloc (Obj.cells #[.bool false, .int .u64 0, .int .u64 0] 26)).alloc (Obj.cells #[.bool false, .int .u64 0, .int .u64 0] 26)) := (by repeat (first | (with_reducible exact Below.refl _ _) | (with_reducible assumption) | (with_reducible refine bl_alloc ?_ _) | (with_reducible refine bl_drew ?_) | (with_reducible refine bl_drewN ?_ _) | (with_reducible refine bl_set ?_ (by first | (simp; done) | (simp; omega)) _) | (with_reducible refine bl_trans ?_ ‹_›)))
    have hsz : ((w.alloc (Obj.cells #[.bool false, .int .u64 0, .int .u64 0] 26)).alloc (Obj.cells #[.bool false, .int .u64 0, .int .u64 0] 26)).heap.size = w.heap.size + 1 + 1 := by simp
    generalize (w.alloc (Obj.cells #[.bool false, .int .u64 0, .int .u64 0] 26)).alloc (Obj.cells #[.bool false, .int .u64 0, .int .u64 0] 26) = w0 at *
    obtain ⟨ga, hga⟩ : ∃ ga, ga = w.heap.size + 1 := ⟨_, rfl⟩
    rw [← hga] at hA ⊢
    have hgl : w.heap.size < ga := by omega
    clear hsz
    have HGA := Lib.hid hga
    clear hga
    go_loopw [24] (fun vi wr => ∃ k : Nat, k ≤ 4 ∧ vi = .int .i64 k ∧ Blk wr w.heap.size 26 (AddrC false 0) ∧ Blk wr ga 26 (AddrC false (valB ((nums s).take k))) ∧ Below w.heap.size w wr) (fun i _ => 4 - (intOf i).toNat)
    case atStart => exact ⟨0, by omega, rfl, hR, hA, hbel⟩
    case round =>
      clear hR hA hbel
      obtain ⟨k, hk, rfl, hR, hA, hbel⟩ := hrel
      by_cases hlt : k < 4
      · have d1 : (k : Int) < 4 := by omega
        have hks : k < s.size := by omega
        have hkI : (k : Int) < s.size := by omega
        have hd := HAT.out k hks
        have hd6 : (s[k]'hks).toNat < 256 := (s[k]'hks).toNat_lt
        have hst : valB ((nums s).take (k + 1)) = valB ((nums s).take k) * 256 + (s[k]'hks).toNat := by
          obtain ⟨h1, h2⟩ := List.getElem?_eq_some_iff.1 hd
          rw [List.take_succ_eq_append_getElem h1, valB_snoc', h2]
        have HST := Lib.hid hst
        obtain ⟨h1, h2, h3⟩ := or_step (take_room HB.out (k := k) (by omega)) hd6
        have HSH := Lib.hid h1
        have HOF := Lib.hid h2
        have HOR := Lib.hid h3
        clear h1 h2 h3 hst hd
        have hwr : IntKind.u64.wrap (((s[k]'hks).toNat : Nat) : Int) = (((s[k]'hks).toNat : Nat) : Int) := by
          show (((s[k]'hks).toNat : Nat) : Int) % 18446744073709551616 = _; omega
        generalize valB ((nums s).take k) = x at *
        generalize hdd : (s[k]'hks).toNat = d at *
        have hz0 := hA.lt
        obtain ⟨c0, c1, c2, _⟩ := blk_adr hA
        have cz0 := hA.frozen 0
        have cz1 := hA.frozen 1
        have cz2 := hA.frozen 2
        go_wp2_with fail
        refine wp_region_held_drew (S := fun _ => True) (by kernel_rfl) trivial (fun _ => ?_)
        refine take_q (i := 0) (v := ?_) rfl (by kernel_rfl) (by kernel_rfl) (by kernel_rfl) (fun _ _ _ h => h) (Or.inl ⟨by rfl, ?_⟩) (by trivial) ?_
        rotate_left
        · intro w hSw; (try dsimp only at hSw); go_simp; try with_reducible rfl
        try simp only [Act.put, List.setIfInBounds_toArray, List.set_cons_zero, List.set_cons_succ]
        refine take_q (i := 3) (v := ?_) rfl (by kernel_rfl) (by kernel_rfl) (by kernel_rfl) (fun _ _ _ h => h) (Or.inl ⟨by rfl, ?_⟩) (by trivial) ?_
        rotate_left
        · intro w hSw; (try dsimp only at hSw); go_simp; try with_reducible rfl
        try simp only [Act.put, List.setIfInBounds_toArray, List.set_cons_zero, List.set_cons_succ]
        refine take_q (i := 4) (v := ?_) rfl (by kernel_rfl) (by kernel_rfl) (by kernel_rfl) (fun _ _ _ h => h) (Or.inl ⟨by rfl, ?_⟩) (by trivial) ?_
        rotate_left
        · intro w hSw; (try dsimp only at hSw); go_simp; try with_reducible rfl
        try simp only [Act.put, List.setIfInBounds_toArray, List.set_cons_zero, List.set_cons_succ]
        refine take_q (i := 5) (v := ?_) rfl (by kernel_rfl) (by kernel_rfl) (by kernel_rfl) (fun _ _ _ h => h) (Or.inl ⟨by rfl, ?_⟩) (by trivial) ?_
        rotate_left
        · intro w hSw; (try dsimp only at hSw); go_simp; try with_reducible rfl
        try simp only [Act.put, List.setIfInBounds_toArray, List.set_cons_zero, List.set_cons_succ]
        refine take_q (i := 6) (v := ?_) rfl (by kernel_rfl) (by kernel_rfl) (by kernel_rfl) (fun _ _ _ h => h) (Or.inl ⟨by rfl, ?_⟩) (by trivial) ?_
        rotate_left
        · intro w hSw; (try dsimp only at hSw); go_simp; try with_reducible rfl
        try simp only [Act.put, List.setIfInBounds_toArray, List.set_cons_zero, List.set_cons_succ]
        refine wpAnyH_ready (rs := [1]) (by kernel_rfl) (by simp) ?_
        refine cons_q rfl (fun K hK => ?_) AllReadyH.nil
        go_simp
        refine hK.out _ _ trivial (fun _ => ?_)
        clear hK K
        try simp only [Act.put, List.setIfInBounds_toArray, List.set_cons_zero, List.set_cons_succ]
        refine wpAnyH_ready (rs := [2]) (by kernel_rfl) (by simp) ?_
        refine cons_q rfl (fun K hK => ?_) AllReadyH.nil
        go_simp
        refine (HSH.out _).mono ?_; rintro e w3 ⟨rfl, hb3⟩; have hA3 : Blk w3 ga 26 (AddrC _ x) := Blk.after (by repeat (first | (with_reducible assumption) | (with_reducible refine blk_fill (u := .int .u64 0) (v := .int .u64 0) ?_) | (with_reducible refine Blk.drew ?_) | (with_reducible refine Blk.new' _ _ _ _ (by first | (with_reducible rfl) | (simp; done))) | (with_reducible refine Blk.alloc ?_ _) | (with_reducible refine Blk.after ?_ ‹_›) | (with_reducible refine Blk.far ?_ (by first | (simp; done) | (simp; omega)) _))) hb3; have hl3 := hA3.lt
        refine hK.out _ _ trivial (fun _ => ?_)
        clear hK K
        try simp only [Act.put, List.setIfInBounds_toArray, List.set_cons_zero, List.set_cons_succ]
        refine wpAnyH_ready (rs := [7]) (by kernel_rfl) (by simp) ?_
        refine cons_q rfl (fun K hK => ?_) AllReadyH.nil
        go_simp
        refine (HOF.out _).mono ?_; rintro e w4 ⟨rfl, hb4⟩; have hA4 := hA3.after hb4; have hl4 := hA4.lt
        refine hK.out _ _ trivial (fun _ => ?_)
        clear hK K
        try simp only [Act.put, List.setIfInBounds_toArray, List.set_cons_zero, List.set_cons_succ]
        refine wpAnyH_ready (rs := [8]) (by kernel_rfl) (by simp) ?_
        refine cons_q rfl (fun K hK => ?_) AllReadyH.nil
        go_simp
        refine (HOR.out _).mono ?_; rintro e w5 ⟨rfl, hb5⟩; have hA5 := hA4.after hb5; have hl5 := hA5.lt; obtain ⟨d0, d1, d2, _⟩ := blk_adr hA5; have dz0 := hA5.frozen 0; have dz1 := hA5.frozen 1; have dz2 := hA5.frozen 2; unfold numV
        refine hK.out _ _ trivial (fun _ => ?_)
        clear hK K
        try simp only [Act.put, List.setIfInBounds_toArray, List.set_cons_zero, List.set_cons_succ]
        refine take_q (i := 9) (v := ?_) rfl (by kernel_rfl) (by kernel_rfl) (by kernel_rfl) (fun _ _ _ h => h) (Or.inl ⟨by rfl, ?_⟩) (by trivial) ?_
        rotate_left
        · intro w hSw; (try dsimp only at hSw); go_simp; try with_reducible rfl
        try simp only [Act.put, List.setIfInBounds_toArray, List.set_cons_zero, List.set_cons_succ]
        refine wpAnyH_ready (rs := [10]) (by kernel_rfl) (by simp) ?_
        refine cons_q rfl (fun K hK => ?_) AllReadyH.nil
        go_simp
        refine hK.out _ _ trivial (fun _ => ?_)
        clear hK K
        try simp only [Act.put, List.setIfInBounds_toArray, List.set_cons_zero, List.set_cons_succ]
        refine wpAnyH_done (by kernel_rfl) ?_ _
        go_wp2_with fail
        go_roundw
        case rel => exact ⟨k + 1, by omega, by go_num, (by repeat (first | (with_reducible assumption) | (with_reducible refine blk_fill (u := .int .u64 0) (v := .int .u64 0) ?_) | (with_reducible refine Blk.drew ?_) | (with_reducible refine Blk.new' _ _ _ _ (by first | (with_reducible rfl) | (simp; done))) | (with_reducible refine Blk.alloc ?_ _) | (with_reducible refine Blk.after ?_ ‹_›) | (with_reducible refine Blk.far ?_ (by first | (simp; done) | (simp; omega)) _))), by rw [HST.out]; exact (hA5.put 1 _).put 2 _, (by repeat (first | (with_reducible exact Below.refl _ _) | (with_reducible assumption) | (with_reducible refine bl_alloc ?_ _) | (with_reducible refine bl_drew ?_) | (with_reducible refine bl_drewN ?_ _) | (with_reducible refine bl_set ?_ (by first | (simp; done) | (simp; omega)) _) | (with_reducible refine bl_trans ?_ ‹_›)))⟩
        case measure => simp [intOf]; omega
      · obtain rfl : k = 4 := by omega
        have d1 : ¬ ((4 : Nat) : Int) < 4 := by omega
        have ht : (nums s).take 4 = nums s := List.take_of_length_le (by rw [HL.out]; exact Nat.le_refl _)
        rw [ht] at hA
        have hz0 := hA.lt
        obtain ⟨V, hV⟩ : ∃ V, valB (nums s) = V := ⟨_, rfl⟩
        rw [hV] at hA
        have HV := Lib.hid hV
        clear hV
        obtain ⟨c0, c1, c2, _⟩ := blk_adr hA
        have cz0 := hA.frozen 0
        have cz1 := hA.frozen 1
        have cz2 := hA.frozen 2
        obtain ⟨r0, r1, r2, _⟩ := blk_adr hR
        have rz0 := hR.frozen 0
        have rz1 := hR.frozen 1
        have rz2 := hR.frozen 2
        go_wp2_with fail
        obtain ⟨q0, q1, q2, _⟩ := blk_adr (v := false) (n := V) (((hR.put 0 (.bool false)).put 1 (.int .u64 (hi V))).put 2 (.int .u64 (lo V)))
        refine bodyPost_ret (v := .tuple #[AddrV false V, .int .i64 0]) (by unfold AddrV; simp [results, Tryd.results14, go_sem, q0, q1, q2]) rfl ⟨by rw [HV.out], (by repeat (first | (with_reducible exact Below.refl _ _) | (with_reducible assumption) | (with_reducible refine bl_alloc ?_ _) | (with_reducible refine bl_drew ?_) | (with_reducible refine bl_drewN ?_ _) | (with_reducible refine bl_set ?_ (by first | (simp; done) | (simp; omega)) _) | (with_reducible refine bl_trans ?_ ‹_›)))⟩
  · have hv : (((16 : Nat) == 16) : Bool) = true := by decide
    rw [hv]
    have e8 : 8 * (s.size : Int) = 128 := by omega
    go_enter Tryd.func14, Tryd.ntmps14
    go_wp2_with fail
    have hR : Blk ((w.alloc (Obj.cells #[.bool false, .int .u64 0, .int .u64 0] 26)).alloc (Obj.cells #[.bool true, .int .u64 0, .int .u64 0] 26)) (w.heap.size) 26 (AddrC false 0) := ((Blk.new' _ _ _ _ (by simp) : Blk (w.alloc (Obj.cells #[.bool false, .int .u64 0, .int .u64 0] 26)) (w.heap.size) 26 (AddrC false 0))).alloc _
    have hA : Blk ((w.alloc (Obj.cells #[.bool false, .int .u64 0, .int .u64 0] 26)).alloc (Obj.cells #[.bool true, .int .u64 0, .int .u64 0] 26)) (w.heap.size + 1) 26 (AddrC true 0) := (Blk.new' _ _ _ _ (by simp) : Blk ((w.alloc (Obj.cells #[.bool false, .int .u64 0, .int .u64 0] 26)).alloc (Obj.cells #[.bool true, .int .u64 0, .int .u64 0] 26)) (w.heap.size + 1) 26 (AddrC true 0))
    have hbel : Below w.heap.size w ((w.alloc (Obj.cells #[.bool false, .int .u64 0, .int .u64 0] 26)).alloc (Obj.cells #[.bool true, .int .u64 0, .int .u64 0] 26)) := (by repeat (first | (with_reducible exact Below.refl _ _) | (with_reducible assumption) | (with_reducible refine bl_alloc ?_ _) | (with_reducible refine bl_drew ?_) | (with_reducible refine bl_drewN ?_ _) | (with_reducible refine bl_set ?_ (by first | (simp; done) | (simp; omega)) _) | (with_reducible refine bl_trans ?_ ‹_›)))
    have hsz : ((w.alloc (Obj.cells #[.bool false, .int .u64 0, .int .u64 0] 26)).alloc (Obj.cells #[.bool true, .int .u64 0, .int .u64 0] 26)).heap.size = w.heap.size + 1 + 1 := by simp
    generalize (w.alloc (Obj.cells #[.bool false, .int .u64 0, .int .u64 0] 26)).alloc (Obj.cells #[.bool true, .int .u64 0, .int .u64 0] 26) = w0 at *
    obtain ⟨ga, hga⟩ : ∃ ga, ga = w.heap.size + 1 := ⟨_, rfl⟩
    rw [← hga] at hA ⊢
    have hgl : w.heap.size < ga := by omega
    clear hsz
    have HGA := Lib.hid hga
    clear hga
    go_loopw [24] (fun vi wr => ∃ k : Nat, k ≤ 16 ∧ vi = .int .i64 k ∧ Blk wr w.heap.size 26 (AddrC false 0) ∧ Blk wr ga 26 (AddrC true (valB ((nums s).take k))) ∧ Below w.heap.size w wr) (fun i _ => 16 - (intOf i).toNat)
    case atStart => exact ⟨0, by omega, rfl, hR, hA, hbel⟩
    case round =>
      clear hR hA hbel
      obtain ⟨k, hk, rfl, hR, hA, hbel⟩ := hrel
      by_cases hlt : k < 16
      · have d1 : (k : Int) < 16 := by omega
        have hks : k < s.size := by omega
        have hkI : (k : Int) < s.size := by omega
        have hd := HAT.out k hks
        have hd6 : (s[k]'hks).toNat < 256 := (s[k]'hks).toNat_lt
        have hst : valB ((nums s).take (k + 1)) = valB ((nums s).take k) * 256 + (s[k]'hks).toNat := by
          obtain ⟨h1, h2⟩ := List.getElem?_eq_some_iff.1 hd
          rw [List.take_succ_eq_append_getElem h1, valB_snoc', h2]
        have HST := Lib.hid hst
        obtain ⟨h1, h2, h3⟩ := or_step (take_room HB.out (k := k) (by omega)) hd6
        have HSH := Lib.hid h1
        have HOF := Lib.hid h2
        have HOR := Lib.hid h3
        clear h1 h2 h3 hst hd
        have hwr : IntKind.u64.wrap (((s[k]'hks).toNat : Nat) : Int) = (((s[k]'hks).toNat : Nat) : Int) := by
          show (((s[k]'hks).toNat : Nat) : Int) % 18446744073709551616 = _; omega
        generalize valB ((nums s).take k) = x at *
        generalize hdd : (s[k]'hks).toNat = d at *
        have hz0 := hA.lt
        obtain ⟨c0, c1, c2, _⟩ := blk_adr hA
        have cz0 := hA.frozen 0
        have cz1 := hA.frozen 1
        have cz2 := hA.frozen 2
        go_wp2_with fail
        refine wp_region_held_drew (S := fun _ => True) (by kernel_rfl) trivial (fun _ => ?_)
        refine take_q (i := 0) (v := ?_) rfl (by kernel_rfl) (by kernel_rfl) (by kernel_rfl) (fun _ _ _ h => h) (Or.inl ⟨by rfl, ?_⟩) (by trivial) ?_
        rotate_left
        · intro w hSw; (try dsimp only at hSw); go_simp; try with_reducible rfl
        try simp only [Act.put, List.setIfInBounds_toArray, List.set_cons_zero, List.set_cons_succ]
        refine take_q (i := 3) (v := ?_) rfl (by kernel_rfl) (by kernel_rfl) (by kernel_rfl) (fun _ _ _ h => h) (Or.inl ⟨by rfl, ?_⟩) (by trivial) ?_
        rotate_left
        · intro w hSw; (try dsimp only at hSw); go_simp; try with_reducible rfl
        try simp only [Act.put, List.setIfInBounds_toArray, List.set_cons_zero, List.set_cons_succ]
        refine take_q (i := 4) (v := ?_) rfl (by kernel_rfl) (by kernel_rfl) (by kernel_rfl) (fun _ _ _ h => h) (Or.inl ⟨by rfl, ?_⟩) (by trivial) ?_
        rotate_left
        · intro w hSw; (try dsimp only at hSw); go_simp; try with_reducible rfl
        try simp only [Act.put, List.setIfInBounds_toArray, List.set_cons_zero, List.set_cons_succ]
        refine take_q (i := 5) (v := ?_) rfl (by kernel_rfl) (by kernel_rfl) (by kernel_rfl) (fun _ _ _ h => h) (Or.inl ⟨by rfl, ?_⟩) (by trivial) ?_
        rotate_left
        · intro w hSw; (try dsimp only at hSw); go_simp; try with_reducible rfl
        try simp only [Act.put, List.setIfInBounds_toArray, List.set_cons_zero, List.set_cons_succ]
        refine take_q (i := 6) (v := ?_) rfl (by kernel_rfl) (by kernel_rfl) (by kernel_rfl) (fun _ _ _ h => h) (Or.inl ⟨by rfl, ?_⟩) (by trivial) ?_
        rotate_left
        · intro w hSw; (try dsimp only at hSw); go_simp; try with_reducible rfl
        try simp only [Act.put, List.setIfInBounds_toArray, List.set_cons_zero, List.set_cons_succ]
        refine wpAnyH_ready (rs := [1]) (by kernel_rfl) (by simp) ?_
        refine cons_q rfl (fun K hK => ?_) AllReadyH.nil
        go_simp
        refine hK.out _ _ trivial (fun _ => ?_)
        clear hK K
        try simp only [Act.put, List.setIfInBounds_toArray, List.set_cons_zero, List.set_cons_succ]
        refine wpAnyH_ready (rs := [2]) (by kernel_rfl) (by simp) ?_
        refine cons_q rfl (fun K hK => ?_) AllReadyH.nil
        go_simp
        refine (HSH.out _).mono ?_; rintro e w3 ⟨rfl, hb3⟩; have hA3 : Blk w3 ga 26 (AddrC _ x) := Blk.after (by repeat (first | (with_reducible assumption) | (with_reducible refine blk_fill (u := .int .u64 0) (v := .int .u64 0) ?_) | (with_reducible refine Blk.drew ?_) | (with_reducible refine Blk.new' _ _ _ _ (by first | (with_reducible rfl) | (simp; done))) | (with_reducible refine Blk.alloc ?_ _) | (with_reducible refine Blk.after ?_ ‹_›) | (with_reducible refine Blk.far ?_ (by first | (simp; done) | (simp; omega)) _))) hb3; have hl3 := hA3.lt
        refine hK.out _ _ trivial (fun _ => ?_)
        clear hK K
        try simp only [Act.put, List.setIfInBounds_toArray, List.set_cons_zero, List.set_cons_succ]
        refine wpAnyH_ready (rs := [7]) (by kernel_rfl) (by simp) ?_
        refine cons_q rfl (fun K hK => ?_) AllReadyH.nil
        go_simp
        refine (HOF.out _).mono ?_; rintro e w4 ⟨rfl, hb4⟩; have hA4 := hA3.after hb4; have hl4 := hA4.lt
        refine hK.out _ _ trivial (fun _ => ?_)
        clear hK K
        try simp only [Act.put, List.setIfInBounds_toArray, List.set_cons_zero, List.set_cons_succ]
        refine wpAnyH_ready (rs := [8]) (by kernel_rfl) (by simp) ?_
        refine cons_q rfl (fun K hK => ?_) AllReadyH.nil
        go_simp
        refine (HOR.out _).mono ?_; rintro e w5 ⟨rfl, hb5⟩; have hA5 := hA4.after hb5; have hl5 := hA5.lt; obtain ⟨d0, d1, d2, _⟩ := blk_adr hA5; have dz0 := hA5.frozen 0; have dz1 := hA5.frozen 1; have dz2 := hA5.frozen 2; unfold numV
        refine hK.out _ _ trivial (fun _ => ?_)
        clear hK K
        try simp only [Act.put, List.setIfInBounds_toArray, List.set_cons_zero, List.set_cons_succ]
        refine take_q (i := 9) (v := ?_) rfl (by kernel_rfl) (by kernel_rfl) (by kernel_rfl) (fun _ _ _ h => h) (Or.inl ⟨by rfl, ?_⟩) (by trivial) ?_
        rotate_left
        · intro w hSw; (try dsimp only at hSw); go_simp; try with_reducible rfl
        try simp only [Act.put, List.setIfInBounds_toArray, List.set_cons_zero, List.set_cons_succ]
        refine wpAnyH_ready (rs := [10]) (by kernel_rfl) (by simp) ?_
        refine cons_q rfl (fun K hK => ?_) AllReadyH.nil
        go_simp
        refine hK.out _ _ trivial (fun _ => ?_)
        clear hK K
        try simp only [Act.put, List.setIfInBounds_toArray, List.set_cons_zero, List.set_cons_succ]
        refine wpAnyH_done (by kernel_rfl) ?_ _
        go_wp2_with fail
        go_roundw
        case rel => exact ⟨k + 1, by omega, by go_num, (by repeat (first | (with_reducible assumption) | (with_reducible refine blk_fill (u := .int .u64 0) (v := .int .u64 0) ?_) | (with_reducible refine Blk.drew ?_) | (with_reducible refine Blk.new' _ _ _ _ (by first | (with_reducible rfl) | (simp; done))) | (with_reducible refine Blk.alloc ?_ _) | (with_reducible refine Blk.after ?_ ‹_›) | (with_reducible refine Blk.far ?_ (by first | (simp; done) | (simp; omega)) _))), by rw [HST.out]; exact (hA5.put 1 _).put 2 _, (by repeat (first | (with_reducible exact Below.refl _ _) | (with_reducible assumption) | (with_reducible refine bl_alloc ?_ _) | (with_reducible refine bl_drew ?_) | (with_reducible refine bl_drewN ?_ _) | (with_reducible refine bl_set ?_ (by first | (simp; done) | (simp; omega)) _) | (with_reducible refine bl_trans ?_ ‹_›)))⟩
        case measure => simp [intOf]; omega
      · obtain rfl : k = 16 := by omega
        have d1 : ¬ ((16 : Nat) : Int) < 16 := by omega
        have ht : (nums s).take 16 = nums s := List.take_of_length_le (by rw [HL.out]; exact Nat.le_refl _)
        rw [ht] at hA
        have hz0 := hA.lt
        obtain ⟨V, hV⟩ : ∃ V, valB (nums s) = V := ⟨_, rfl⟩
        rw [hV] at hA
        have HV := Lib.hid hV
        clear hV
        obtain ⟨c0, c1, c2, _⟩ := blk_adr hA
        have cz0 := hA.frozen 0
        have cz1 := hA.frozen 1
        have cz2 := hA.frozen 2
        obtain ⟨r0, r1, r2, _⟩ := blk_adr hR
        have rz0 := hR.frozen 0
        have rz1 := hR.frozen 1
        have rz2 := hR.frozen 2
        go_wp2_with fail
        obtain ⟨q0, q1, q2, _⟩ := blk_adr (v := true) (n := V) (((hR.put 0 (.bool true)).put 1 (.int .u64 (hi V))).put 2 (.int .u64 (lo V)))
        refine bodyPost_ret (v := .tuple #[AddrV true V, .int .i64 0]) (by unfold AddrV; simp [results, Tryd.results14, go_sem, q0, q1, q2]) rfl ⟨by rw [HV.out], (by repeat (first | (with_reducible exact Below.refl _ _) | (with_reducible assumption) | (with_reducible refine bl_alloc ?_ _) | (with_reducible refine bl_drew ?_) | (with_reducible refine bl_drewN ?_ _) | (with_reducible refine bl_set ?_ (by first | (simp; done) | (simp; omega)) _) | (with_reducible refine bl_trans ?_ ‹_›)))⟩
end Go.Proofs.YtgdgklibilddgaaDoor
