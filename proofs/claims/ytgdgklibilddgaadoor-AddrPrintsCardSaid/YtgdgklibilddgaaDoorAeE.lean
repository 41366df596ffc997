/- Addresses: the reference's text of a long address, its rows. -/
import Derived.Test.YtgdgklibilddgaaDoorAdY
import Derived.Test.YtgdgklibilddgaaDoorLd
import Derived.Deep.AppendLies
namespace Go.Proofs.YtgdgklibilddgaaDoor
open Go.RowKit

def i64V (l : List Nat) : List Value := l.map fun n => Value.int .i64 (n : Nat)
theorem i64V_at {l : List Nat} {j x : Nat} (h : l[j]? = some x) : (i64V l)[j]? = some (.int .i64 (x : Nat)) := by simp [i64V, h]
theorem i64V_snoc (l : List Nat) (x : Nat) : i64V (l ++ [x]) = i64V l ++ [.int .i64 (x : Nat)] := by simp [i64V]
theorem grp_pair {n t : Nat} (ht : t < 8) : (grps n)[t]? = some (256 * (n / 256 ^ (15 - 2 * t) % 256) + n / 256 ^ (15 - (2 * t + 1)) % 256) := by
  rw [grps_at ht]
  congr 1
  have e1 : 65536 ^ (7 - t) = 256 ^ (15 - (2 * t + 1)) := by
    rw [show 15 - (2 * t + 1) = 2 * (7 - t) by omega, Nat.pow_mul]
  have e2 : 256 ^ (15 - 2 * t) = 256 ^ (15 - (2 * t + 1)) * 256 := by
    rw [show 15 - 2 * t = 15 - (2 * t + 1) + 1 by omega, Nat.pow_succ]
  rw [e1, e2, ← Nat.div_div_eq_div_mul]
  generalize n / 256 ^ (15 - (2 * t + 1)) = X
  omega
/-- the end of a row of noughts -/
theorem run_exit2 {G : List Nat} {i k x : Nat} (hrun : runAt ((zeros G).drop i) = k - i) (hik : i ≤ k) (hall : ∀ j, i ≤ j → j < k → (zeros G)[j]? = some true) (hx : G[k]? = some x) : x ≠ 0 := run_exit hrun hik hall hx
/-- the last sign of a text -/
theorem last_sign {s : ByteArray} {c : UInt8} {j : Nat} (hj : s.size = j + 1) (h : (bts s).getLast? = some c) : (s[j]'(by omega)).toNat = c.toNat := by
  have hl : (bts s).length = j + 1 := by simpa [bts] using hj
  rw [List.getLast?_eq_getElem?, hl, Nat.add_sub_cancel] at h
  obtain ⟨h1, h2⟩ := List.getElem?_eq_some_iff.1 h
  rw [← h2]; rfl
theorem joinH_len (L : List Nat) : (joinH L).length ≤ L.length * 5 := by
  have := join_len (c := [58]) (m := 4) (l := L.map hexD) (fun p hp => by
    obtain ⟨x, _, rfl⟩ := List.mem_map.1 hp
    exact hexD_len x)
  rw [List.length_map] at this
  exact this
theorem preT_len {G : List Nat} {f m i : Nat} (hl : G.length = 8) : (preT G f m i).length ≤ 100 := by
  unfold preT
  split
  · have := joinH_len (G.take i)
    have h : (G.take i).length ≤ 8 := by simp; omega
    omega
  · have h1 := joinH_len (G.take f)
    have h2 := joinH_len ((G.take i).drop (f + m))
    have h3 : (G.take f).length ≤ 8 := by simp; omega
    have h4 : ((G.take i).drop (f + m)).length ≤ 8 := by simp; omega
    rw [List.length_append, List.length_cons, List.length_cons]
    omega
theorem byte_cell {n j : Nat} (hj : j < 16) : (bytesV (ints (bytesB 16 n)))[j]? = some (.int .u8 ((n / 256 ^ (15 - j) % 256 : Nat) : Int)) := by
  have h := bytesB_at (k := 16) (n := n) hj
  simp only [bytesV, ints, List.getElem?_map, h, Option.map_some]
  rfl
set_option maxRecDepth 100000 in
set_option maxHeartbeats 3200000 in
theorem rprint6_c (n : Nat) (w : World) (hn : n < 340282366920938463463374607431768211456) :
    Calls Tryd.prog 10 #[AddrV true n] w fun e w' => e = .returned (.string ⟨(preT (grps n) (refRow (zeros (grps n))).1 (refRow (zeros (grps n))).2 8).toArray⟩) ∧ Below w.heap.size w w' := by
  have HR := Lib.hid (fun w => rright_c true n w hn)
  have hrt : rightB true n = true := decide_eq_true hn
  rw [hrt] at HR
  have HB := Lib.hid (fun w => rbytes_c true n w hn)
  obtain ⟨i0, hi0, hz0, hz1, hz2⟩ := info_parts info_int
  clear hrt
  simp only [AddrV_eq, AddrC] at *
  go_enter Tryd.func10, Tryd.ntmps10
  go_wp2_with fail
  have hA : Blk (w.alloc (Obj.cells #[.bool true, .int .u64 (hi n), .int .u64 (lo n)] 26)) (w.heap.size) 26 (AddrC true n) := (Blk.new' _ _ _ _ (by simp) : Blk (w.alloc (Obj.cells #[.bool true, .int .u64 (hi n), .int .u64 (lo n)] 26)) (w.heap.size) 26 (AddrC true n))
  have hbel : Below w.heap.size w (w.alloc (Obj.cells #[.bool true, .int .u64 (hi n), .int .u64 (lo n)] 26)) := (by repeat (first | (with_reducible exact Below.refl _ _) | (with_reducible assumption) | (with_reducible refine bl_alloc ?_ _) | (with_reducible refine bl_drew ?_) | (with_reducible refine bl_drewN ?_ _) | (with_reducible refine bl_set ?_ (by first | (simp; done) | (simp; omega)) _) | (with_reducible refine bl_trans ?_ ‹_›)))
  have hsz : (w.alloc (Obj.cells #[.bool true, .int .u64 (hi n), .int .u64 (lo n)] 26)).heap.size = w.heap.size + 1 := by simp
  generalize w.alloc (Obj.cells #[.bool true, .int .u64 (hi n), .int .u64 (lo n)] 26) = w0 at *
  with_reducible refine (HR.out _).mono ?_
  rintro e w1 ⟨rfl, hb⟩
  (try clear a0 a1 a2 az0 az1 az2 az3)
  replace hA := hA.after hb
  obtain ⟨a0, a1, a2, _⟩ := blk_adr hA
  have az0 := hA.frozen 0
  have az1 := hA.frozen 1
  have az2 := hA.frozen 2
  (try clear al al1 al2)
  have al := hA.lt
  have al1 := Nat.lt_succ_of_lt al
  have al2 := Nat.lt_succ_of_lt al1
  try simp only [Nat.succ_eq_add_one] at al1 al2
  replace hbel := bl_trans hbel hb
  clear hb
  go_wp2_with fail
  with_reducible refine (HB.out _).mono ?_
  rintro e w2 ⟨vb, rfl, hownb, hb⟩
  obtain ⟨gb, cb, rfl, _, q2, q3, q4, _⟩ := own_form hownb (by decide : 0 < byteN true)
  have hcb : 16 ≤ cb := q3
  have hx : ∀ j, j < 16 → w2.cell? ⟨gb, j, none⟩ = some (.int .u8 ((n / 256 ^ (15 - j) % 256 : Nat) : Int)) := fun j hj => q4 j _ (byte_cell hj)
  have HX := Lib.hid hx
  replace hA := hA.after hb
  replace hbel := bl_trans hbel hb
  clear hx q4 q3 hb hownb a0 a1 a2 az0 az1 az2
  have hlA := hA.lt
  obtain ⟨a0, a1, a2, _⟩ := blk_adr hA
  have az0 := hA.frozen 0
  have az1 := hA.frozen 1
  have az2 := hA.frozen 2
  have hb16 : byteN true = 16 := rfl
  rw [hb16]
  go_wp2_with fail
  have hown : (w2.alloc (.cells #[] 3)).ownsRow w2.heap.size 3 1 (.slice (some ⟨w2.heap.size, 0, none⟩) 0 0) 0 [] := own_empty w2 _ _ (Nat.le_refl _)
  have hbx : Below w2.heap.size w2 (w2.alloc (.cells #[] 3)) := (by repeat (first | (with_reducible exact Below.refl _ _) | (with_reducible assumption) | (with_reducible refine bl_alloc ?_ _) | (with_reducible refine bl_drew ?_) | (with_reducible refine bl_drewN ?_ _) | (with_reducible refine bl_set ?_ (by first | (simp; done) | (simp; omega)) _) | (with_reducible refine bl_trans ?_ ‹_›)))
  generalize w2.alloc (.cells #[] 3) = w3 at *
  clear hA hlA a0 a1 a2 az0 az1 az2
  go_loopw [4, 5] (fun vg vi wr => ∃ t k2 : Nat, t ≤ 8 ∧ k2 = 2 * t ∧ vi = .int .i64 (k2 : Nat) ∧ wr.ownsRow w2.heap.size 3 1 vg t (i64V ((grps n).take t)) ∧ Below w2.heap.size w2 wr) (fun _ i _ => 16 - (intOf i).toNat)
  case atStart => exact ⟨0, 0, by omega, rfl, rfl, hown, hbx⟩
  case round =>
    clear hown hbx
    obtain ⟨t, k2, ht, hk2, rfl, hown, hbx⟩ := hrel
    have hz := hbx.size
    by_cases hlt : t < 8
    · have d1 : (k2 : Int) < 16 := by omega
      have hk16 : k2 < 15 := by omega
      have x0 := (hbx.cell (p := ⟨gb, k2, none⟩) q2).trans (HX.out k2 (by omega))
      have x1 := (hbx.cell (p := ⟨gb, k2 + 1, none⟩) q2).trans (HX.out (k2 + 1) (by omega))
      have hgp := grp_pair (n := n) hlt
      rw [← hk2] at hgp
      have hp : n / 256 ^ (15 - k2) % 256 < 256 := Nat.mod_lt _ (by omega)
      have hq : n / 256 ^ (15 - (k2 + 1)) % 256 < 256 := Nat.mod_lt _ (by omega)
      have z0 := HX.out k2 (by omega)
      have z1 := HX.out (k2 + 1) (by omega)
      generalize n / 256 ^ (15 - k2) % 256 = p at *
      generalize n / 256 ^ (15 - (k2 + 1)) % 256 = q at *
      have hG : i64V ((grps n).take (t + 1)) = i64V ((grps n).take t) ++ [.int .i64 (256 * (p : Int) + q)] := by
        obtain ⟨h1, h2⟩ := List.getElem?_eq_some_iff.1 hgp
        rw [List.take_succ_eq_append_getElem h1, h2, i64V_snoc]
        simp
      have HG := Lib.hid hG
      have HK2 := Lib.hid hk2
      clear hG hgp hk2
      go_wp2_with fail
      have hownd : wr.drew.ownsRow w2.heap.size 3 1 u4 t (i64V ((grps n).take t)) := hown
      have hbd : Below w2.heap.size w2 wr.drew := bl_drew hbx
      have hzd : w2.heap.size ≤ wr.drew.heap.size := hz
      have hks : ∀ w', Below w2.heap.size w2 w' → (w'.cell? ⟨gb, k2, none⟩ = some (.int .u8 (p : Nat)) ∧ w'.cell? ⟨gb, k2 + 1, none⟩ = some (.int .u8 (q : Nat))) ∧ Below w2.heap.size w2 w' := fun w' h =>
        ⟨⟨(h.cell (p := ⟨gb, k2, none⟩) q2).trans z0, (h.cell (p := ⟨gb, k2 + 1, none⟩) q2).trans z1⟩, h⟩
      have HKS := Lib.hid hks
      have hw1 : IntKind.i64.wrap ((k2 : Int) + 1) = (k2 : Int) + 1 := IntWalk.i64_in _ (by omega)
      have hwp : IntKind.i64.wrap (p : Int) = p := IntWalk.i64_in _ (by omega)
      have hwq : IntKind.i64.wrap (q : Int) = q := IntWalk.i64_in _ (by omega)
      have hw2 : IntKind.i64.wrap (256 * (p : Int)) = 256 * (p : Int) := IntWalk.i64_in _ (by omega)
      have hw3 : IntKind.i64.wrap (256 * (p : Int) + q) = 256 * (p : Int) + q := IntWalk.i64_in _ (by omega)
      have hk0 : (0 : Int) ≤ (k2 : Int) + 1 := by omega
      have hk1 : (k2 : Int) + 1 < 16 := by omega
      have hk2' : ((k2 : Int) + 1).toNat = k2 + 1 := by omega
      clear hown hbx x0 x1 hks z0 z1
      refine wp_region_held_drew (S := fun w' => (w'.cell? ⟨gb, k2, none⟩ = some (.int .u8 (p : Nat)) ∧ w'.cell? ⟨gb, k2 + 1, none⟩ = some (.int .u8 (q : Nat))) ∧ Below w2.heap.size w2 w') (by kernel_rfl) ?_ (fun hHeld => ?_)
      · (first | exact HKS.out _ hbd | exact HKS.out _ (bl_alloc hbd _) | exact HKS.out _ (below_own hbd hownd (Nat.le_refl _) hgrow))
      refine take_q (i := 0) (v := ?_) rfl (by kernel_rfl) (by kernel_rfl) (by kernel_rfl) (fun _ _ _ h => h) (Or.inl ⟨by rfl, ?_⟩) (by assumption) ?_
      rotate_left
      · intro w hSw; (try dsimp only at hSw); go_simp; try with_reducible rfl
      try simp only [Act.put, List.setIfInBounds_toArray, List.set_cons_zero, List.set_cons_succ]
      refine take_q (i := 1) (v := ?_) rfl (by kernel_rfl) (by kernel_rfl) (by kernel_rfl) (fun _ _ _ h => h) (Or.inl ⟨by rfl, ?_⟩) (by assumption) ?_
      rotate_left
      · intro w hSw; (try dsimp only at hSw); go_simp; try with_reducible rfl
      try simp only [Act.put, List.setIfInBounds_toArray, List.set_cons_zero, List.set_cons_succ]
      refine take_q (i := 2) (v := ?_) rfl (by kernel_rfl) (by kernel_rfl) (by kernel_rfl) (fun _ _ _ h => h) (Or.inl ⟨by rfl, ?_⟩) (by assumption) ?_
      rotate_left
      · intro w hSw; (try dsimp only at hSw); go_simp; try with_reducible rfl
      try simp only [Act.put, List.setIfInBounds_toArray, List.set_cons_zero, List.set_cons_succ]
      refine take_q (i := 3) (v := ?_) rfl (by kernel_rfl) (by kernel_rfl) (by kernel_rfl) (fun _ _ _ h => h) (Or.inl ⟨by rfl, ?_⟩) (by assumption) ?_
      rotate_left
      · intro w hSw; (try dsimp only at hSw); go_simp; try with_reducible rfl
      try simp only [Act.put, List.setIfInBounds_toArray, List.set_cons_zero, List.set_cons_succ]
      refine take_q (i := 4) (v := ?_) rfl (by kernel_rfl) (by kernel_rfl) (by kernel_rfl) (fun _ _ _ h => h) (Or.inl ⟨by rfl, ?_⟩) (by assumption) ?_
      rotate_left
      · intro w hSw; (try dsimp only at hSw); go_simp; try with_reducible rfl
      try simp only [Act.put, List.setIfInBounds_toArray, List.set_cons_zero, List.set_cons_succ]
      refine take_q (i := 5) (v := ?_) rfl (by kernel_rfl) (by kernel_rfl) (by kernel_rfl) (fun _ _ _ h => h) (Or.inl ⟨by rfl, ?_⟩) (by assumption) ?_
      rotate_left
      · intro w hSw; (try dsimp only at hSw); go_simp; try with_reducible rfl
      try simp only [Act.put, List.setIfInBounds_toArray, List.set_cons_zero, List.set_cons_succ]
      refine take_q (i := 6) (v := ?_) rfl (by kernel_rfl) (by kernel_rfl) (by kernel_rfl) (fun _ _ _ h => h) (Or.inl ⟨by rfl, ?_⟩) (by assumption) ?_
      rotate_left
      · intro w hSw; (try dsimp only at hSw); go_simp; try with_reducible rfl
      try simp only [Act.put, List.setIfInBounds_toArray, List.set_cons_zero, List.set_cons_succ]
      refine take_q (i := 7) (v := ?_) rfl (by kernel_rfl) (by kernel_rfl) (by kernel_rfl) (fun _ _ _ h => h) (Or.inl ⟨by rfl, ?_⟩) (by assumption) ?_
      rotate_left
      · intro w hSw; (try dsimp only at hSw); go_simp; try with_reducible rfl
      try simp only [Act.put, List.setIfInBounds_toArray, List.set_cons_zero, List.set_cons_succ]
      refine take_q (i := 8) (v := ?_) rfl (by kernel_rfl) (by kernel_rfl) (by kernel_rfl) (fun _ _ _ h => h) (Or.inl ⟨by rfl, ?_⟩) (by assumption) ?_
      rotate_left
      · intro w hSw; (try dsimp only at hSw); go_simp; try with_reducible rfl
      try simp only [Act.put, List.setIfInBounds_toArray, List.set_cons_zero, List.set_cons_succ]
      refine take_q (i := 9) (v := ?_) rfl (by kernel_rfl) (by kernel_rfl) (by kernel_rfl) (fun _ _ _ h => h) (Or.inl ⟨by rfl, ?_⟩) (by assumption) ?_
      rotate_left
      · intro w hSw; (try dsimp only at hSw); go_simp; try with_reducible rfl
      try simp only [Act.put, List.setIfInBounds_toArray, List.set_cons_zero, List.set_cons_succ]
      refine take_q (i := 10) (v := ?_) rfl (by kernel_rfl) (by kernel_rfl) (by kernel_rfl) (fun _ _ _ h => h) (Or.inl ⟨by rfl, ?_⟩) (by assumption) ?_
      rotate_left
      · intro w hSw; (try dsimp only at hSw); go_simp; try with_reducible rfl
      try simp only [Act.put, List.setIfInBounds_toArray, List.set_cons_zero, List.set_cons_succ]
      refine take_q (i := 11) (v := ?_) rfl (by kernel_rfl) (by kernel_rfl) (by kernel_rfl) (fun _ _ _ h => h) (Or.inl ⟨by rfl, ?_⟩) (by assumption) ?_
      rotate_left
      · intro w hSw; (try dsimp only at hSw); go_simp; try with_reducible rfl
      try simp only [Act.put, List.setIfInBounds_toArray, List.set_cons_zero, List.set_cons_succ]
      refine take_q (i := 12) (v := ?_) rfl (by kernel_rfl) (by kernel_rfl) (by kernel_rfl) (fun _ _ _ h => h) (Or.inl ⟨by rfl, ?_⟩) (by assumption) ?_
      rotate_left
      · intro w hSw; (try dsimp only at hSw); go_simp; try with_reducible rfl
      try simp only [Act.put, List.setIfInBounds_toArray, List.set_cons_zero, List.set_cons_succ]
      refine take_q (i := 13) (v := ?_) rfl (by kernel_rfl) (by kernel_rfl) (by kernel_rfl) (fun _ _ _ h => h) (Or.inl ⟨by rfl, ?_⟩) (by assumption) ?_
      rotate_left
      · intro w hSw; (try dsimp only at hSw); go_simp; try with_reducible rfl
      try simp only [Act.put, List.setIfInBounds_toArray, List.set_cons_zero, List.set_cons_succ]
      refine wpAnyH_ready (rs := [14]) (by kernel_rfl) (by simp) ?_
      refine cons_q rfl (fun K hK => ?_) AllReadyH.nil
      go_simp
      refine hK.out _ _ ?_ (fun hHeld => ?_)
      · (first | exact HKS.out _ hbd | exact HKS.out _ (bl_alloc hbd _) | exact HKS.out _ (below_own hbd hownd (Nat.le_refl _) hgrow))
      clear hK K
      try simp only [Act.put, List.setIfInBounds_toArray, List.set_cons_zero, List.set_cons_succ]
      refine wpAnyH_ready (rs := [15]) (by kernel_rfl) (by simp) ?_
      refine cons_q rfl (fun K hK => ?_) AllReadyH.nil
      refine step_append_lies _ (by rfl) _ _ _ (by rfl) w2.heap.size 3 i0 (.int .i64 0) 1 8 Tryd.underlying56 hi0 hz0 hz1 hz2 (by rfl) (by decide) _ t _ (by rfl) (hownd.alloc _) ⟨wr.drew.heap.size, 0, none⟩ 1 1 [.int .i64 (256 * (p : Int) + q)] (by rfl) (by rfl) (cell_list wr [.int .i64 (256 * (p : Int) + q)] _) (one_cell_k _ _) (by omega) (by simp only [maxLen]; omega) (by omega) (by simp; omega) _ rfl ?_; intro g cap w1 hown' hgrow hat hlt
      refine hK.out _ _ ?_ (fun hHeld => ?_)
      · (first | exact HKS.out _ hbd | exact HKS.out _ (bl_alloc hbd _) | exact HKS.out _ (below_own hbd hownd (Nat.le_refl _) hgrow))
      clear hK K
      try simp only [Act.put, List.setIfInBounds_toArray, List.set_cons_zero, List.set_cons_succ]
      refine take_q (i := 16) (v := ?_) rfl (by kernel_rfl) (by kernel_rfl) (by kernel_rfl) (fun _ _ _ h => h) (Or.inl ⟨by rfl, ?_⟩) (by assumption) ?_
      rotate_left
      · intro w hSw; (try dsimp only at hSw); go_simp; try with_reducible rfl
      try simp only [Act.put, List.setIfInBounds_toArray, List.set_cons_zero, List.set_cons_succ]
      refine wpAnyH_done (by kernel_rfl) ?_ _
      go_wp2_with fail
      go_roundw
      case rel => exact ⟨t + 1, k2 + 2, by omega, by have := HK2.out; omega, by go_num, by rw [HG.out]; exact hown', hHeld.2⟩
      case measure => simp [intOf]; omega
    · obtain rfl : t = 8 := by omega
      have d1 : ¬ (k2 : Int) < 16 := by omega
      rw [List.take_of_length_le (by rw [grps_len]; exact Nat.le_refl _)] at hown
      obtain ⟨gg, cg, rfl, _, r2, r3, r4, _⟩ := own_form hown (by omega : 0 < 8)
      have hg : ∀ (j x : Nat), (grps n)[j]? = some x → wr.cell? ⟨gg, j, none⟩ = some (.int .i64 (x : Nat)) := fun j x h => r4 j _ (i64V_at h)
      have HGC := Lib.hid hg
      have HGL := Lib.hid (grps_len n)
      have HG6 := Lib.hid (fun g (h : g ∈ grps n) => grps_lt h)
      have hbw := bl_trans hbel hbx
      clear hg r4 hown hbx hbel hk2 HX HB HR
      obtain ⟨G, hGE⟩ : ∃ G, grps n = G := ⟨_, rfl⟩
      rw [hGE] at HGC HGL HG6
      have HGE := Lib.hid hGE
      clear hGE
      have hzl : (zeros G).length = 8 := by rw [zeros_len, HGL.out]
      have HZL := Lib.hid hzl
      clear hzl
      go_wp2_with fail
      go_loopw [6, 7, 8] (fun vf vm vi ws => ∃ i : Nat, i ≤ 8 ∧ vi = .int .i64 i ∧ vf = .int .i64 ((refAt (zeros G) i).1 : Nat) ∧ vm = .int .i64 ((refAt (zeros G) i).2 : Nat) ∧ Below wr.heap.size wr ws) (fun _ _ i _ => 8 - (intOf i).toNat)
      case atStart => exact ⟨0, by omega, rfl, rfl, rfl, Below.refl _ _⟩
      case round =>
        obtain ⟨i, hi, rfl, rfl, rfl, hbs⟩ := hrel
        by_cases hlt : i < 8
        · have d1 : (i : Int) < 8 := by omega
          go_wp2_with fail
          go_loopw [9] (fun vn ws => ∃ d : Nat, i + d ≤ 8 ∧ vn = .int .i64 d ∧ (∀ j, i ≤ j → j < i + d → (zeros G)[j]? = some true) ∧ Below wr.heap.size wr ws) (fun k _ => 8 - (intOf k).toNat)
          case atStart => exact ⟨0, by omega, rfl, fun j a b => absurd b (by omega), Below.refl _ _⟩
          case round =>
            obtain ⟨d, hd, rfl, hall, hbt⟩ := hrel
            have HALL := Lib.hid hall
            clear hall
            have key : (i + d < 8 ∧ (zeros G)[i + d]? = some true) ∨ (runAt ((zeros G).drop i) = d) := by
              by_cases h8 : i + d < 8
              · by_cases hz : (zeros G)[i + d]? = some true
                · exact .inl ⟨h8, hz⟩
                · exact .inr (runAt_is d i (fun j a b => HALL.out j a b) hz)
              · refine .inr (runAt_is d i (fun j a b => HALL.out j a b) ?_)
                rw [List.getElem?_eq_none (by rw [HZL.out]; omega)]
                simp
            have hrd : ∀ h : i + d < 8, ∃ x, G[i + d]? = some x ∧ x < 65536 := fun h => ⟨_, List.getElem?_eq_getElem (by rw [HGL.out]; exact h), HG6.out _ (List.getElem_mem _)⟩
            have HRD := Lib.hid hrd
            clear hrd
            rcases key with ⟨h8, hz⟩ | hrun
            · have d2 : (i : Int) + d < 8 := by omega
              obtain ⟨x, hx, hx6⟩ := HRD.out h8
              have hxz : x = 0 := by
                rw [zeros_at hx] at hz
                simpa using hz
              subst hxz
              have c0 := (hbt.cell (p := ⟨gg, i + d, none⟩) (Nat.lt_of_lt_of_le r2 hbs.size)).trans ((hbs.cell (p := ⟨gg, i + d, none⟩) r2).trans (HGC.out _ _ hx))
              have HNEXT : Hid (∀ j, i ≤ j → j < i + (d + 1) → (zeros G)[j]? = some true) := Lib.hid (fun j a b => by
                by_cases e : j = i + d
                · subst e; exact hz
                · exact HALL.out j a (by omega))
              clear hz hx
              go_wp2_with fail
              go_roundw
              case rel => exact ⟨d + 1, by omega, by go_num, HNEXT.out, (by repeat (first | (with_reducible exact Below.refl _ _) | (with_reducible assumption) | (with_reducible refine bl_alloc ?_ _) | (with_reducible refine bl_drew ?_) | (with_reducible refine bl_drewN ?_ _) | (with_reducible refine bl_set ?_ (by first | (simp; done) | (simp; omega)) _) | (with_reducible refine bl_trans ?_ ‹_›)))⟩
              case measure => simp [intOf]; omega
            · have HEX : Hid (i + d = 8 ∨ (i + d < 8 ∧ ∃ x, G[i + d]? = some x ∧ x < 65536 ∧ x ≠ 0)) := Lib.hid (by
                by_cases h8 : i + d < 8
                · obtain ⟨x, hx, hx6⟩ := HRD.out h8
                  exact .inr ⟨h8, x, hx, hx6, run_exit (k := i + d) (by rw [hrun]; omega) (by omega) HALL.out hx⟩
                · exact .inl (by omega))
              have hst : refAt (zeros G) (i + 1) = if (refAt (zeros G) i).2 < d then (i, d) else refAt (zeros G) i := by
                rw [refAt_succ]
                unfold stepRef
                rw [hrun]
              obtain ⟨hb1, hb2⟩ := refAt_bd (z := zeros G) HZL.out i (by omega)
              generalize refAt (zeros G) i = p at *
              obtain ⟨f, m⟩ := p
              simp only at hb1 hb2 hst
              have hc : ((m : Int) < d ∧ (refAt (zeros G) (i + 1)).1 = i ∧ (refAt (zeros G) (i + 1)).2 = d) ∨ (¬ (m : Int) < d ∧ (refAt (zeros G) (i + 1)).1 = f ∧ (refAt (zeros G) (i + 1)).2 = m) := by
                rw [hst]
                by_cases q1 : m < d
                · rw [if_pos q1]; exact .inl ⟨by omega, rfl, rfl⟩
                · rw [if_neg q1]; exact .inr ⟨by omega, rfl, rfl⟩
              clear hst hrun HALL HRD
              have hbn : Below wr.heap.size wr wr := Below.refl _ _
              rcases HEX.out with h8 | ⟨h8, x, hx, hx6, hx0⟩
              · have d2 : ¬ (i : Int) + d < 8 := by omega
                rcases hc with ⟨d3, e1, e2⟩ | ⟨d3, e1, e2⟩
                all_goals
                  have E1 := Lib.hid e1
                  have E2 := Lib.hid e2
                  have H8 := Lib.hid h8
                  have hbq := hbs.trans (hbt.mono hbs.size)
                  clear e1 e2 HEX h8
                  go_wp2_with fail
                  go_roundw
                  case rel => exact ⟨i + 1, by omega, by go_num, by first | (rw [E1.out]; done) | (rw [E1.out]; rfl), by first | (rw [E2.out]; done) | (rw [E2.out]; rfl), hbq⟩
                  case measure => simp [intOf]; omega
              · have d2 : (i : Int) + d < 8 := by omega
                have c0 := (hbt.cell (p := ⟨gg, i + d, none⟩) (Nat.lt_of_lt_of_le r2 hbs.size)).trans ((hbs.cell (p := ⟨gg, i + d, none⟩) r2).trans (HGC.out _ _ hx))
                have d5 : ((x : Int) == 0) = false := by simp; omega
                clear hx HEX
                rcases hc with ⟨d3, e1, e2⟩ | ⟨d3, e1, e2⟩
                all_goals
                  have E1 := Lib.hid e1
                  have E2 := Lib.hid e2
                  have hbq := hbs.trans (hbt.mono hbs.size)
                  clear e1 e2
                  go_wp2_with fail
                  go_roundw
                  case rel => exact ⟨i + 1, by omega, by go_num, by first | (rw [E1.out]; done) | (rw [E1.out]; rfl), by first | (rw [E2.out]; done) | (rw [E2.out]; rfl), hbq⟩
                  case measure => simp [intOf]; omega
        · obtain rfl : i = 8 := by omega
          have d1 : ¬ (8 : Int) < 8 := by omega
          have he : refAt (zeros G) 8 = refRow (zeros G) := refAt_end _
          rw [he]
          obtain ⟨_, _, _, hfm, _⟩ := rows_of HGL.out
          obtain ⟨f, hF⟩ : ∃ f, (refRow (zeros G)).1 = f := ⟨_, rfl⟩
          obtain ⟨m, hM⟩ : ∃ f, (refRow (zeros G)).2 = f := ⟨_, rfl⟩
          have HF := Lib.hid hF
          have HM := Lib.hid hM
          rw [hF, hM] at hfm
          rw [hF, hM]
          clear hF hM he
          have hbw2 := bl_trans hbw hbs
          go_wp2_with fail
          go_loopw [10, 11] (fun vs vi ws => ∃ (i : Nat) (S : ByteArray), i ≤ 8 ∧ (m < 2 ∨ i ≤ f ∨ f + m ≤ i) ∧ vi = .int .i64 i ∧ vs = .string S ∧ bts S = preT G f m i ∧ Below wr.heap.size wr ws) (fun _ i _ => 8 - (intOf i).toNat)
          case atStart => exact ⟨0, ⟨#[]⟩, by omega, by omega, rfl, rfl, by unfold preT; rw [if_pos (.inr (Nat.zero_le _))]; rfl, Below.refl _ _⟩
          case round =>
            obtain ⟨i, S, hi, hpos, rfl, rfl, hS, hbt⟩ := hrel
            have hSz : S.size ≤ 100 := by
              have h1 : (bts S).length = S.size := by simp [bts]
              rw [← h1, hS]
              exact preT_len HGL.out
            have HS := Lib.hid hS
            clear hS
            by_cases hlt : i < 8
            · have d1 : (i : Int) < 8 := by omega
              obtain ⟨x, hx⟩ : ∃ x, G[i]? = some x := ⟨_, List.getElem?_eq_getElem (by rw [HGL.out]; exact hlt)⟩
              have hx6 : x < 65536 := HG6.out _ (List.mem_of_getElem? hx)
              have c0 := (hbt.cell (p := ⟨gg, i, none⟩) (Nat.lt_of_lt_of_le r2 hbs.size)).trans ((hbs.cell (p := ⟨gg, i, none⟩) r2).trans (HGC.out _ _ hx))
              have HHX := Lib.hid (fun w => rhex_c x w hx6)
              have hhz : (hexT x).size ≤ 4 := hexD_len x
              by_cases hA : 2 ≤ m ∧ i = f
              · obtain ⟨hm2, rfl⟩ := hA
                have d2 : (2 : Int) ≤ m := by omega
                have hnx : bts (S ++ ⟨#[58, 58]⟩) = preT G i m (i + m) := by
                  rw [preT_skip hm2 (by rw [HGL.out]; exact hfm), ← HS.out]
                  simp [bts]
                have HNX := Lib.hid hnx
                clear hnx hx
                go_wp2_with fail
                go_roundw
                case rel => exact ⟨i + m, S ++ ⟨#[58, 58]⟩, by omega, .inr (.inr (Nat.le_refl _)), by first | go_num | (congr 1; omega), rfl, HNX.out, hbt⟩
                case measure => simp [intOf]; omega
              · have hpos2 : m < 2 ∨ i < f ∨ f + m ≤ i := by omega
                have HPS := Lib.hid (preT_step HG6.out hx hpos2)
                have HNX : Hid (m < 2 ∨ i + 1 ≤ f ∨ f + m ≤ i + 1) := Lib.hid (by omega)
                have hcond : (¬ (2 : Int) ≤ m) ∨ ((2 : Int) ≤ m ∧ ((i : Int) == f) = false) := by
                  by_cases h2 : 2 ≤ m
                  · exact .inr ⟨by omega, by simp; omega⟩
                  · exact .inl (by omega)
                have hsep : (S = ⟨#[]⟩ ∧ sepT (preT G f m i) = []) ∨ (∃ j, ∃ hj : S.size = j + 1, ((S[j]'(by omega)).toNat = 58 ∧ sepT (preT G f m i) = [])) ∨ (∃ j d, ∃ hj : S.size = j + 1, ((S[j]'(by omega)).toNat = d ∧ d ≠ 58 ∧ sepT (preT G f m i) = [58])) := by
                  rw [← HS.out]
                  unfold sepT
                  by_cases he : bts S = []
                  · refine .inl ⟨?_, by rw [if_neg (fun h => h.1 he)]⟩
                    apply ByteArray.ext
                    apply Array.toList_inj.1
                    exact he
                  · obtain ⟨j, hj⟩ : ∃ j, S.size = j + 1 := by
                      have h1 : (bts S).length = S.size := by simp [bts]
                      have h2 : (bts S).length ≠ 0 := fun h => he (List.eq_nil_of_length_eq_zero h)
                      exact ⟨S.size - 1, by omega⟩
                    obtain ⟨c, hc⟩ : ∃ c, (bts S).getLast? = some c := by
                      cases h : (bts S).getLast? with
                      | none => exact absurd (List.getLast?_eq_none_iff.1 h) he
                      | some c => exact ⟨c, rfl⟩
                    have hl := last_sign hj hc
                    by_cases h58 : c = 58
                    · subst h58
                      exact .inr (.inl ⟨j, hj, by rw [hl]; rfl, by rw [if_neg (fun h => h.2 hc)]⟩)
                    · refine .inr (.inr ⟨j, c.toNat, hj, hl, fun h => h58 (UInt8.toNat_inj.1 h), ?_⟩)
                      rw [if_pos ⟨he, fun h => h58 (by rw [hc] at h; exact Option.some.inj h)⟩]
                clear hx hA hpos hpos2
                rcases hsep with ⟨rfl, hse⟩ | ⟨j, hj, hl, hse⟩ | ⟨j, d, hj, hl, hd58, hse⟩
                · have hbs3 : bts (⟨#[]⟩ ++ hexT x) = preT G f m i ++ sepT (preT G f m i) ++ hexD x := by
                    rw [hse, ← HS.out]; simp [bts, hexT]
                  have HBS := Lib.hid hbs3
                  clear hbs3 hse
                  rcases hcond with d2 | ⟨d2, d3⟩
                  all_goals
                    go_wp2_with fail
                    with_reducible refine (HHX.out _).mono ?_
                    rintro e w7 ⟨rfl, hb7⟩
                    have hbt7 := hbt.trans (hb7.mono hbt.size)
                    go_wp2_with fail
                    go_roundw
                    case rel => exact ⟨i + 1, _, by omega, HNX.out, by go_num, rfl, by rw [HPS.out]; exact HBS.out, hbt7⟩
                    case measure => simp [intOf]; omega
                · have hbs3 : bts (S ++ hexT x) = preT G f m i ++ sepT (preT G f m i) ++ hexD x := by
                    rw [hse, ← HS.out]; simp [bts, hexT]
                  have HBS := Lib.hid hbs3
                  have hsI : (S.size : Int) = j + 1 := by omega
                  have hjl : j < S.size := by omega
                  have hne : ¬ S = ⟨#[]⟩ := fun h => by
                    rw [h] at hj
                    exact absurd hj (by show ¬ (0 = j + 1); omega)
                  have hne2 : ¬ S.toList = [] := fun h => hne (by
                    rw [Lib.toList_data] at h
                    apply ByteArray.ext
                    exact Array.toList_inj.1 h)
                  have hne3 : S.toList.isEmpty = false := by
                    cases h : S.toList with
                    | nil => exact absurd h hne2
                    | cons a b => rfl
                  have hne4 : (S.toList == []) = false := by simpa using hne2
                  clear hbs3 hse hne
                  rcases hcond with d2 | ⟨d2, d3⟩
                  all_goals
                    go_wp2_with fail
                    with_reducible refine (HHX.out _).mono ?_
                    rintro e w7 ⟨rfl, hb7⟩
                    have hbt7 := hbt.trans (hb7.mono hbt.size)
                    go_wp2_with fail
                    go_roundw
                    case rel => exact ⟨i + 1, _, by omega, HNX.out, by go_num, rfl, by rw [HPS.out]; exact HBS.out, hbt7⟩
                    case measure => simp [intOf]; omega
                · have hbs3 : bts (S ++ ⟨#[58]⟩ ++ hexT x) = preT G f m i ++ sepT (preT G f m i) ++ hexD x := by
                    rw [hse, ← HS.out]; simp [bts, hexT]
                  have HBS := Lib.hid hbs3
                  have hsI : (S.size : Int) = j + 1 := by omega
                  have hjl : j < S.size := by omega
                  have hne : ¬ S = ⟨#[]⟩ := fun h => by
                    rw [h] at hj
                    exact absurd hj (by show ¬ (0 = j + 1); omega)
                  have hne2 : ¬ S.toList = [] := fun h => hne (by
                    rw [Lib.toList_data] at h
                    apply ByteArray.ext
                    exact Array.toList_inj.1 h)
                  have hne3 : S.toList.isEmpty = false := by
                    cases h : S.toList with
                    | nil => exact absurd h hne2
                    | cons a b => rfl
                  have hne4 : (S.toList == []) = false := by simpa using hne2
                  have e58 : ((d : Int) == 58) = false := by simp; omega
                  have e58' : ((d : Int) != 58) = true := by simp; omega
                  clear hbs3 hse hne
                  rcases hcond with d2 | ⟨d2, d3⟩
                  all_goals
                    go_wp2_with fail
                    with_reducible refine (HHX.out _).mono ?_
                    rintro e w7 ⟨rfl, hb7⟩
                    have hbt7 := hbt.trans (hb7.mono hbt.size)
                    go_wp2_with fail
                    go_roundw
                    case rel => exact ⟨i + 1, _, by omega, HNX.out, by go_num, rfl, by rw [HPS.out]; exact HBS.out, hbt7⟩
                    case measure => simp [intOf]; omega
            · obtain rfl : i = 8 := by omega
              have d1 : ¬ (8 : Int) < 8 := by omega
              have hfin : S = ⟨(preT G (refRow (zeros G)).1 (refRow (zeros G)).2 8).toArray⟩ := by
                rw [HF.out, HM.out]
                apply ByteArray.ext
                apply Array.toList_inj.1
                show bts S = _
                rw [HS.out]
              have HFIN := Lib.hid hfin
              clear hfin
              go_wp2_with fail
              go_ret
              exact ⟨by rw [HGE.out, ← HFIN.out]; rfl, bl_trans hbw2 hbt⟩
end Go.Proofs.YtgdgklibilddgaaDoor
