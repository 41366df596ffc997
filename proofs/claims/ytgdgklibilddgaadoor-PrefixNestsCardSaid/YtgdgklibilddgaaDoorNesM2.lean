/-
A part of the proof of prefixNests_card: its lemmas and walks, part 2. No condition.
-/
import Derived.Test.YtgdgklibilddgaaDoorNesM1
set_option linter.unusedVariables false
set_option linter.unusedSimpArgs false
namespace Go.Proofs.YtgdgklibilddgaaDoor
open Go.RowKit

theorem runAt_long : ∀ (d n : Nat) (z : List Bool), (∀ j, n ≤ j → j < n + d → z[j]? = some true) → d ≤ runAt (z.drop n)
  | 0, _, _, _ => Nat.zero_le _
  | d + 1, n, z, h1 => by
    have h0 := h1 n (Nat.le_refl _) (by omega)
    obtain ⟨hi, e⟩ := List.getElem?_eq_some_iff.1 h0
    rw [List.drop_eq_getElem_cons hi, e, runAt]
    have := runAt_long d (n + 1) z (fun j a b => h1 j (by omega) (by omega))
    omega
theorem run_exit {G : List Nat} {i k x : Nat} (hrun : runAt ((zeros G).drop i) = k - i) (hik : i ≤ k) (hall : ∀ j, i ≤ j → j < k → (zeros G)[j]? = some true) (hx : G[k]? = some x) : x ≠ 0 := by
  intro e
  subst e
  have := runAt_long (k + 1 - i) i (zeros G) (fun j a b => by
    by_cases e : j = k
    · subst e; rw [zeros_at hx]; rfl
    · exact hall j a (by omega))
  omega
theorem u16_at {G : List Nat} {k x : Nat} (h : G[k]? = some x) : (u16V G).toArray[k]? = some (.int .u16 (x : Nat)) := by unfold u16V; simp [h]
set_option maxRecDepth 100000 in
set_option maxHeartbeats 3200000 in
theorem row_c (G : List Nat) (w : World) (hl : G.length = 8) (hG : ∀ g ∈ G, g < 65536) :
    Calls Tryd.prog 28 #[.agg (u16V G).toArray] w fun e w' => e = .returned (.tuple #[.int .i64 ((progRow (zeros G)).1 : Nat), .int .i64 ((progRow (zeros G)).2 : Nat)]) ∧ Below w.heap.size w w' := by
  have hzl : (zeros G).length = 8 := by rw [zeros_len, hl]
  have HZL := Lib.hid hzl
  have HL := Lib.hid hl
  have HLT := Lib.hid hG
  clear hzl hl hG
  go_enter Tryd.func28, Tryd.ntmps28
  go_wp2_with fail
  have hA : Blk (w.alloc (Obj.cells ((u16V G).toArray) 49)) (w.heap.size) 49 ((u16V G).toArray) := (Blk.new' _ _ _ _ (by simp) : Blk (w.alloc (Obj.cells ((u16V G).toArray) 49)) (w.heap.size) 49 ((u16V G).toArray))
  have hbel : Below w.heap.size w (w.alloc (Obj.cells ((u16V G).toArray) 49)) := bl_
  have hsz : (w.alloc (Obj.cells ((u16V G).toArray) 49)).heap.size = w.heap.size + 1 := by simp
  generalize w.alloc (Obj.cells ((u16V G).toArray) 49) = w0 at *
  go_loopw [4, 5, 6] (fun vf vt vi wr => ∃ i : Nat, i ≤ 8 ∧ vi = .int .i64 i ∧ vf = .int .i64 ((progAt (zeros G) i).1 : Nat) ∧ vt = .int .i64 ((progAt (zeros G) i).2 : Nat) ∧ Blk wr w.heap.size 49 (u16V G).toArray ∧ Below w.heap.size w wr) (fun _ _ i _ => 8 - (intOf i).toNat)
  case atStart => exact ⟨0, by omega, rfl, rfl, rfl, hA, hbel⟩
  case round =>
    clear hA hbel
    obtain ⟨i, hi, rfl, rfl, rfl, hA, hbel⟩ := hrel
    by_cases hlt : i < 8
    · have d1 : (i : Int) < 8 := by omega
      go_wp2_with fail
      go_loopw [7] (fun vk wr => ∃ k : Nat, i ≤ k ∧ k ≤ 8 ∧ vk = .int .i64 k ∧ (∀ j, i ≤ j → j < k → (zeros G)[j]? = some true) ∧ Blk wr w.heap.size 49 (u16V G).toArray ∧ Below w.heap.size w wr) (fun k _ => 8 - (intOf k).toNat)
      case atStart => exact ⟨i, by omega, by omega, rfl, fun j a b => absurd b (by omega), hA, hbel⟩
      case round =>
        clear hA hbel
        obtain ⟨k, hik, hk, rfl, hall, hA, hbel⟩ := hrel
        have HALL := Lib.hid hall
        clear hall
        have key : (k < 8 ∧ (zeros G)[k]? = some true) ∨ (runAt ((zeros G).drop i) = k - i) := by
          by_cases h8 : k < 8
          · by_cases hz : (zeros G)[k]? = some true
            · exact .inl ⟨h8, hz⟩
            · exact .inr (runAt_is (k - i) i (fun j a b => HALL.out j a (by omega)) (by rw [show i + (k - i) = k by omega]; exact hz))
          · refine .inr (runAt_is (k - i) i (fun j a b => HALL.out j a (by omega)) ?_)
            rw [show i + (k - i) = k by omega, List.getElem?_eq_none (by rw [HZL.out]; omega)]
            simp
        have hrd : ∀ h : k < 8, ∃ x, G[k]? = some x ∧ x < 65536 := fun h => ⟨_, List.getElem?_eq_getElem (by rw [HL.out]; exact h), HLT.out _ (List.getElem_mem _)⟩
        rcases key with ⟨h8, hz⟩ | hrun
        · have d2 : (k : Int) < 8 := by omega
          obtain ⟨x, hx, hx6⟩ := hrd h8
          have hxz : x = 0 := by
            rw [zeros_at hx] at hz
            simpa using hz
          subst hxz
          have c0 := (hA.cell k).trans (u16_at hx)
          have HNEXT : Hid (∀ j, i ≤ j → j < k + 1 → (zeros G)[j]? = some true) := Lib.hid (fun j a b => by
            by_cases e : j = k
            · subst e; exact hz
            · exact HALL.out j a (by omega))
          clear hz hx hrd
          go_wp2_with fail
          go_roundw
          case rel => exact ⟨k + 1, by omega, by omega, by go_num, HNEXT.out, bk_, bl_⟩
          case measure => simp [intOf]; omega
        · have hex : k = 8 ∨ (k < 8 ∧ ∃ x, G[k]? = some x ∧ x < 65536 ∧ x ≠ 0) := by
            by_cases h8 : k < 8
            · obtain ⟨x, hx, hx6⟩ := hrd h8
              exact .inr ⟨h8, x, hx, hx6, run_exit hrun hik HALL.out hx⟩
            · exact .inl (by omega)
          clear hrd
          have HEX := Lib.hid hex
          clear hex
          have hst : progAt (zeros G) (i + 1) = if (progAt (zeros G) i).2 - (progAt (zeros G) i).1 < k - i ∧ 1 < k - i then (i, k) else progAt (zeros G) i := by
            rw [progAt_succ]
            unfold stepRow
            rw [hrun, show i + (k - i) = k by omega]
          have HST := Lib.hid hst
          obtain ⟨hb1, hb2⟩ := progAt_bd (z := zeros G) HZL.out i (by omega)
          generalize progAt (zeros G) i = p at *
          obtain ⟨f, t⟩ := p
          simp only at hb1 hb2
          have hc : (((t : Int) - f < (k : Int) - i ∧ (1 : Int) < (k : Int) - i) ∧ (progAt (zeros G) (i + 1)).1 = i ∧ (progAt (zeros G) (i + 1)).2 = k) ∨ ((t : Int) - f < (k : Int) - i ∧ ¬ (1 : Int) < (k : Int) - i ∧ (progAt (zeros G) (i + 1)).1 = f ∧ (progAt (zeros G) (i + 1)).2 = t) ∨ (¬ (t : Int) - f < (k : Int) - i ∧ (progAt (zeros G) (i + 1)).1 = f ∧ (progAt (zeros G) (i + 1)).2 = t) := by
            rw [HST.out]
            simp only
            by_cases q1 : t - f < k - i
            · by_cases q2 : 1 < k - i
              · rw [if_pos ⟨q1, q2⟩]; exact .inl ⟨⟨by omega, by omega⟩, rfl, rfl⟩
              · rw [if_neg (fun q => q2 q.2)]; exact .inr (.inl ⟨by omega, by omega, rfl, rfl⟩)
            · rw [if_neg (fun q => q1 q.1)]; exact .inr (.inr ⟨by omega, rfl, rfl⟩)
          clear hst hrun HALL
          rcases HEX.out with rfl | ⟨h8, x, hx, hx6, hx0⟩
          · have d2 : ¬ (8 : Int) < 8 := by omega
            rcases hc with ⟨⟨d3, d4⟩, e1, e2⟩ | ⟨d3, d4, e1, e2⟩ | ⟨d3, e1, e2⟩
            all_goals
              have E1 := Lib.hid e1
              have E2 := Lib.hid e2
              clear e1 e2
              go_wp2_with fail
              go_roundw
              case rel => exact ⟨i + 1, by omega, by go_num, by first | (rw [E1.out]; done) | (rw [E1.out]; rfl), by first | (rw [E2.out]; done) | (rw [E2.out]; rfl), bk_, bl_⟩
              case measure => simp [intOf]; omega
          · have d2 : (k : Int) < 8 := by omega
            have c0 := (hA.cell k).trans (u16_at hx)
            have d5 : ((x : Int) == 0) = false := by simp; omega
            clear hx
            rcases hc with ⟨⟨d3, d4⟩, e1, e2⟩ | ⟨d3, d4, e1, e2⟩ | ⟨d3, e1, e2⟩
            all_goals
              have E1 := Lib.hid e1
              have E2 := Lib.hid e2
              clear e1 e2
              go_wp2_with fail
              go_roundw
              case rel => exact ⟨i + 1, by omega, by go_num, by first | (rw [E1.out]; done) | (rw [E1.out]; rfl), by first | (rw [E2.out]; done) | (rw [E2.out]; rfl), bk_, bl_⟩
              case measure => simp [intOf]; omega
    · obtain rfl : i = 8 := by omega
      have d1 : ¬ (8 : Int) < 8 := by omega
      have he : progAt (zeros G) 8 = progRow (zeros G) := progAt_end _
      rw [he]
      go_wp2_with fail
      go_ret2
      exact ⟨rfl, hbel⟩
theorem slice_lo (a f : Nat) (hf : f ≤ 8) (w : World) : (Instr.sliceAt 49 (.pointer (some ⟨a, 0, none⟩)) none (some (.int .i64 (f : Nat))) none).run Tryd.prog w = .ok (.slice (some ⟨a, 0, none⟩) f 8) w := by
  have hlen : Tryd.prog.arrayLen 49 = 8 := by kernel_rfl
  rw [run_sliceAt_array_h w 49 ⟨a, 0, none⟩ (by kernel_rfl) .i64 _ (by omega) (by rw [hlen]; omega), hlen]
  have hs : (sizeOf (Tryd.prog.elem 49)).run Tryd.prog w = .ok 1 w := by kernel_rfl
  rw [hs]
  show Result.ok (slicedAt _ _ _ _ _) w = _
  unfold slicedAt Addr.add
  simp
theorem slice_hi (a t : Nat) (ht : t ≤ 8) (w : World) : (Instr.sliceAt 49 (.pointer (some ⟨a, 0, none⟩)) (some (.int .i64 (t : Nat))) none none).run Tryd.prog w = .ok (.slice (some ⟨a, if t = 8 then 0 else t, none⟩) (8 - t) (8 - t)) w := by
  have hlen : Tryd.prog.arrayLen 49 = 8 := by kernel_rfl
  rw [run_sliceAt_array_l w 49 ⟨a, 0, none⟩ (by kernel_rfl) .i64 _ (by omega) (by rw [hlen]; omega), hlen]
  have hs : (sizeOf (Tryd.prog.elem 49)).run Tryd.prog w = .ok 1 w := by kernel_rfl
  rw [hs]
  show Result.ok (slicedAt _ _ _ _ _) w = _
  unfold slicedAt Addr.add
  simp only [Int.toNat_natCast]
  by_cases h : t = 8
  · subst h; rfl
  · rw [if_neg (by omega), if_neg h]; simp; omega
theorem words_blk {G : List Nat} {g : Nat} {w0 : World} (hl : G.length = 8) (hG6 : ∀ x ∈ G, x < 65536) (hB : Blk w0 g 49 (u16V G).toArray) (hG : Glob w0) (f t : Nat) (hf : f ≤ 8) (ht : t ≤ 8) :
    (∀ w, Below w0.heap.size w0 w → Calls Tryd.prog 29 #[.slice (some ⟨g, 0, none⟩) f 8] w fun e w' => e = .returned (.string ⟨(joinH (G.take f)).toArray⟩) ∧ Below w0.heap.size w0 w') ∧
    (∀ w, Below w0.heap.size w0 w → Calls Tryd.prog 29 #[.slice (some ⟨g, if t = 8 then 0 else t, none⟩) (8 - t) (8 - t)] w fun e w' => e = .returned (.string ⟨(joinH (G.drop t)).toArray⟩) ∧ Below w0.heap.size w0 w') := by
  constructor
  · intro w hb
    refine (words_c g 0 f 8 (G.take f) w (by simp; omega) hf (fun x hx => hG6 x (List.mem_of_mem_take hx)) (fun j hj => ?_) (hB.after hb).lt (hG.after hb)).mono fun e w' h => ⟨h.1, bl_trans hb h.2⟩
    have hj2 : j < f := by simp at hj; omega
    rw [Nat.zero_add, (hB.after hb).cell, u16_at (List.getElem?_eq_getElem (by omega : j < G.length))]
    simp
  · intro w hb
    refine (words_c g (if t = 8 then 0 else t) (8 - t) (8 - t) (G.drop t) w (by simp; omega) (by omega) (fun x hx => hG6 x (List.mem_of_mem_drop hx)) (fun j hj => ?_) (hB.after hb).lt (hG.after hb)).mono fun e w' h => ⟨h.1, bl_trans hb h.2⟩
    have hj2 : j < 8 - t := by simp at hj; omega
    rw [if_neg (by omega), (hB.after hb).cell, u16_at (List.getElem?_eq_getElem (by omega : t + j < G.length))]
    simp
theorem bytes_app (a b : List UInt8) : (⟨a.toArray⟩ : ByteArray) ++ ⟨b.toArray⟩ = ⟨(a ++ b).toArray⟩ := by
  apply ByteArray.ext
  simp
/-- an address's text; none: it may not be -/
def printA (v : Bool) (n : Nat) : List UInt8 := if rightB v n = true then (if v = true then print6 (grps n) (progRow (zeros (grps n))).1 (progRow (zeros (grps n))).2 else print4 n) else []
theorem right_false {n : Nat} (h : rightB false n = true) : n < 4294967296 := by
  unfold rightB at h
  have := of_decide_eq_true h
  exact this
set_option maxRecDepth 100000 in
set_option maxHeartbeats 3200000 in
theorem print_c (v : Bool) (n : Nat) (w : World) (hn : n < 340282366920938463463374607431768211456) (hG : Glob w) :
    Calls Tryd.prog 9 #[AddrV v n] w fun e w' => e = .returned (.string ⟨(printA v n).toArray⟩) ∧ Below w.heap.size w w' := by
  have HR := Lib.hid (fun w => right_c v n w hn)
  unfold printA
  by_cases hr : rightB v n = true
  · rw [hr] at HR
    rw [if_pos hr]
    cases v
    · have HP := Lib.hid (fun w hG => print4_c n w (right_false hr) hG)
      rw [if_neg (by simp)]
      rw [AddrV_eq] at *
      unfold AddrC at *
      go_enter Tryd.func9, Tryd.ntmps9
      go_wp2_with fail
      have hA : Blk (w.alloc (Obj.cells #[.bool false, .int .u64 (hi n), .int .u64 (lo n)] 26)) (w.heap.size) 26 (AddrC false n) := (Blk.new' _ _ _ _ (by simp) : Blk (w.alloc (Obj.cells #[.bool false, .int .u64 (hi n), .int .u64 (lo n)] 26)) (w.heap.size) 26 (AddrC false n))
      have hbel : Below w.heap.size w (w.alloc (Obj.cells #[.bool false, .int .u64 (hi n), .int .u64 (lo n)] 26)) := bl_
      replace hG := hG.after hbel
      have hsz : (w.alloc (Obj.cells #[.bool false, .int .u64 (hi n), .int .u64 (lo n)] 26)).heap.size = w.heap.size + 1 := by simp
      generalize w.alloc (Obj.cells #[.bool false, .int .u64 (hi n), .int .u64 (lo n)] 26) = w0 at *
      with_reducible refine (HR.out _).mono ?_
      rintro e w1 ⟨rfl, hb⟩
      (try clear c0 c1 c2 cz0 cz1 cz2 cz3)
      replace hA := hA.after hb
      obtain ⟨c0, c1, c2, _⟩ := blk_adr hA
      have cz0 := hA.frozen 0
      have cz1 := hA.frozen 1
      have cz2 := hA.frozen 2
      (try clear cl cl1 cl2)
      have cl := hA.lt
      have cl1 := Nat.lt_succ_of_lt cl
      have cl2 := Nat.lt_succ_of_lt cl1
      try simp only [Nat.succ_eq_add_one] at cl1 cl2
      replace hG := hG.after hb
      replace hbel := bl_trans hbel hb
      clear hb
      go_wp2_with fail
      with_reducible refine (HP.out _ hG).mono ?_
      rintro e w2 ⟨rfl, hb⟩
      replace hA := hA.after hb
      replace hG := hG.after hb
      replace hbel := bl_trans hbel hb
      clear hb
      go_wp2_with fail
      go_ret
      exact ⟨rfl, hbel⟩
    · rw [if_pos rfl]
      have HP := Lib.hid (fun w => pieces_c true n w hn)
      have HRO := Lib.hid (fun w => row_c (grps n) w (grps_len n) (fun g hg => grps_lt hg))
      obtain ⟨a0, a1, a2, a3, a4, a5, a6, a7, hgr⟩ : ∃ a0 a1 a2 a3 a4 a5 a6 a7, grps n = [a0, a1, a2, a3, a4, a5, a6, a7] := ⟨_, _, _, _, _, _, _, _, rfl⟩
      rw [hgr] at HP HRO ⊢
      simp only [u16V, List.map] at HP HRO
      rw [AddrV_eq] at *
      unfold AddrC at *
      go_enter Tryd.func9, Tryd.ntmps9
      go_wp2_with fail
      have hA : Blk (w.alloc (Obj.cells #[.bool true, .int .u64 (hi n), .int .u64 (lo n)] 26)) (w.heap.size) 26 (AddrC true n) := (Blk.new' _ _ _ _ (by simp) : Blk (w.alloc (Obj.cells #[.bool true, .int .u64 (hi n), .int .u64 (lo n)] 26)) (w.heap.size) 26 (AddrC true n))
      have hbel : Below w.heap.size w (w.alloc (Obj.cells #[.bool true, .int .u64 (hi n), .int .u64 (lo n)] 26)) := bl_
      replace hG := hG.after hbel
      have hsz : (w.alloc (Obj.cells #[.bool true, .int .u64 (hi n), .int .u64 (lo n)] 26)).heap.size = w.heap.size + 1 := by simp
      generalize w.alloc (Obj.cells #[.bool true, .int .u64 (hi n), .int .u64 (lo n)] 26) = w0 at *
      with_reducible refine (HR.out _).mono ?_
      rintro e w1 ⟨rfl, hb⟩
      (try clear c0 c1 c2 cz0 cz1 cz2 cz3)
      replace hA := hA.after hb
      obtain ⟨c0, c1, c2, _⟩ := blk_adr hA
      have cz0 := hA.frozen 0
      have cz1 := hA.frozen 1
      have cz2 := hA.frozen 2
      (try clear cl cl1 cl2)
      have cl := hA.lt
      have cl1 := Nat.lt_succ_of_lt cl
      have cl2 := Nat.lt_succ_of_lt cl1
      try simp only [Nat.succ_eq_add_one] at cl1 cl2
      replace hG := hG.after hb
      replace hbel := bl_trans hbel hb
      clear hb
      go_wp2_with fail
      with_reducible refine (HP.out _).mono ?_
      rintro e w2 ⟨rfl, hb⟩
      replace hA := hA.after hb
      replace hG := hG.after hb
      replace hbel := bl_trans hbel hb
      clear hb
      go_wp2_with fail
      have hL : Blk (w2.alloc (Obj.cells #[.int .u16 (a0 : Nat), .int .u16 (a1 : Nat), .int .u16 (a2 : Nat), .int .u16 (a3 : Nat), .int .u16 (a4 : Nat), .int .u16 (a5 : Nat), .int .u16 (a6 : Nat), .int .u16 (a7 : Nat)] 49)) (w2.heap.size) 49 #[.int .u16 (a0 : Nat), .int .u16 (a1 : Nat), .int .u16 (a2 : Nat), .int .u16 (a3 : Nat), .int .u16 (a4 : Nat), .int .u16 (a5 : Nat), .int .u16 (a6 : Nat), .int .u16 (a7 : Nat)] := (Blk.new' _ _ _ _ (by simp) : Blk (w2.alloc (Obj.cells #[.int .u16 (a0 : Nat), .int .u16 (a1 : Nat), .int .u16 (a2 : Nat), .int .u16 (a3 : Nat), .int .u16 (a4 : Nat), .int .u16 (a5 : Nat), .int .u16 (a6 : Nat), .int .u16 (a7 : Nat)] 49)) (w2.heap.size) 49 #[.int .u16 (a0 : Nat), .int .u16 (a1 : Nat), .int .u16 (a2 : Nat), .int .u16 (a3 : Nat), .int .u16 (a4 : Nat), .int .u16 (a5 : Nat), .int .u16 (a6 : Nat), .int .u16 (a7 : Nat)])
      have hbn : Below w2.heap.size w2 (w2.alloc (Obj.cells #[.int .u16 (a0 : Nat), .int .u16 (a1 : Nat), .int .u16 (a2 : Nat), .int .u16 (a3 : Nat), .int .u16 (a4 : Nat), .int .u16 (a5 : Nat), .int .u16 (a6 : Nat), .int .u16 (a7 : Nat)] 49)) := bl_
      replace hG := hG.after hbn
      replace hA := hA.after hbn
      replace hbel := bl_trans hbel hbn
      clear hbn
      (try clear hsz)
      have hsz : (w2.alloc (Obj.cells #[.int .u16 (a0 : Nat), .int .u16 (a1 : Nat), .int .u16 (a2 : Nat), .int .u16 (a3 : Nat), .int .u16 (a4 : Nat), .int .u16 (a5 : Nat), .int .u16 (a6 : Nat), .int .u16 (a7 : Nat)] 49)).heap.size = w2.heap.size + 1 := by simp
      generalize w2.alloc (Obj.cells #[.int .u16 (a0 : Nat), .int .u16 (a1 : Nat), .int .u16 (a2 : Nat), .int .u16 (a3 : Nat), .int .u16 (a4 : Nat), .int .u16 (a5 : Nat), .int .u16 (a6 : Nat), .int .u16 (a7 : Nat)] 49) = w3 at *
      with_reducible refine (HRO.out _).mono ?_
      rintro e w4 ⟨rfl, hb⟩
      replace hL := hL.after hb
      replace hG := hG.after hb
      replace hbel := bl_trans hbel hb
      clear hb
      obtain ⟨rx1, r2, r3, rx2, rx3⟩ := rows_of (G := [a0, a1, a2, a3, a4, a5, a6, a7]) rfl
      obtain ⟨f, hF⟩ : ∃ f, (progRow (zeros [a0, a1, a2, a3, a4, a5, a6, a7])).1 = f := ⟨_, rfl⟩
      obtain ⟨t, hT⟩ : ∃ f, (progRow (zeros [a0, a1, a2, a3, a4, a5, a6, a7])).2 = f := ⟨_, rfl⟩
      have HF := Lib.hid hF
      have HT := Lib.hid hT
      rw [hF, hT] at r2
      rw [hT] at r3
      rw [hF, hT]
      clear hF hT rx1 rx2 rx3
      have h6 : ∀ x ∈ [a0, a1, a2, a3, a4, a5, a6, a7], x < 65536 := fun x hx => grps_lt (hgr ▸ hx)
      obtain ⟨hw1, hw2⟩ := words_blk (G := [a0, a1, a2, a3, a4, a5, a6, a7]) rfl h6 hL hG f t (by omega) r3
      obtain ⟨hw3, hw4⟩ := words_blk (G := [a0, a1, a2, a3, a4, a5, a6, a7]) rfl h6 hL hG 8 t (by omega) r3
      have hjl : ∀ L : List Nat, L.length ≤ 8 → (⟨(joinH L).toArray⟩ : ByteArray).size ≤ 1000 := fun L hL => by
        have := join_len (c := [58]) (m := 4) (l := L.map hexD) (fun p hp => by
          obtain ⟨x, _, rfl⟩ := List.mem_map.1 hp
          exact hexD_len x)
        rw [List.length_map] at this
        show (joinH L).toArray.size ≤ 1000
        rw [List.size_toArray]
        refine Nat.le_trans this ?_
        simp; omega
      have hz1 := hjl ([a0, a1, a2, a3, a4, a5, a6, a7].take f) (by simp; omega)
      have hz2 := hjl ([a0, a1, a2, a3, a4, a5, a6, a7].drop t) (by simp)
      obtain ⟨S1, hS1⟩ : ∃ S : ByteArray, (⟨(joinH ([a0, a1, a2, a3, a4, a5, a6, a7].take f)).toArray⟩ : ByteArray) = S := ⟨_, rfl⟩
      obtain ⟨S2, hS2⟩ : ∃ S : ByteArray, (⟨(joinH ([a0, a1, a2, a3, a4, a5, a6, a7].drop t)).toArray⟩ : ByteArray) = S := ⟨_, rfl⟩
      obtain ⟨S3, hS3⟩ : ∃ S : ByteArray, (⟨(joinH ([a0, a1, a2, a3, a4, a5, a6, a7].take 8)).toArray⟩ : ByteArray) = S := ⟨_, rfl⟩
      rw [hS1] at hw1 hz1
      rw [hS2] at hw2 hz2
      rw [hS3] at hw3
      have hpr : (⟨(print6 [a0, a1, a2, a3, a4, a5, a6, a7] (progRow (zeros [a0, a1, a2, a3, a4, a5, a6, a7])).1 (progRow (zeros [a0, a1, a2, a3, a4, a5, a6, a7])).2).toArray⟩ : ByteArray) = if f = t then S3 else S1 ++ ⟨#[58, 58]⟩ ++ S2 := by
        rw [HF.out, HT.out]
        unfold print6
        by_cases h : f = t
        · rw [if_pos h, if_pos h, ← hS3]; rfl
        · rw [if_neg h, if_neg h, ← hS1, ← hS2]
          show _ = _ ++ (⟨[58, 58].toArray⟩ : ByteArray) ++ _
          rw [bytes_app, bytes_app]
          simp
      have HPR := Lib.hid hpr
      clear hS1 hS2 hS3 hpr hjl
      have hs1 := slice_lo w2.heap.size f (by omega)
      have hs2 := slice_hi w2.heap.size t r3
      have hbs : Below w4.heap.size w4 w4 := Below.refl _ _
      generalize (if t = 8 then 0 else t) = o2 at *
      generalize 8 - t = n2 at *
      have HW1 := Lib.hid hw1
      have HW2 := Lib.hid hw2
      have HW3 := Lib.hid hw3
      clear hw1 hw2 hw3 hw4 h6 HRO HP HR hgr HF HT
      by_cases hft : f = t
      · have d : ((f : Int) == t) = true := by simp; omega
        go_wp2_with fail
        refine (HW3.out _ hbs).mono ?_
        rintro e wx ⟨rfl, hbx⟩
        go_wp2_with fail
        go_ret
        refine ⟨?_, bl_trans hbel hbx⟩
        rw [HPR.out, if_pos hft]; rfl
      · have d : ((f : Int) == t) = false := by simp; omega
        go_wp2_with fail
        have hq1 : S1.size ≤ 9223372036854775805 := by omega
        have hq2 : S1.size + 2 + S2.size ≤ 9223372036854775807 := by omega
        have hcat1 : ∀ w, (Op.stringOp .add S1 ⟨#[58, 58]⟩).run Tryd.prog w = .ok (.string (S1 ++ ⟨#[58, 58]⟩)) w := fun w => run_string_add w S1 ⟨#[58, 58]⟩ (by omega) (by decide)
        have hcat2 : ∀ w, (Op.stringOp .add (S1 ++ ⟨#[58, 58]⟩) S2).run Tryd.prog w = .ok (.string (S1 ++ ⟨#[58, 58]⟩ ++ S2)) w := fun w => run_string_add w _ S2 (by rw [ByteArray.size_append]; show ((S1.size + 2 : Nat) : Int) ≤ _; omega) (by omega)
        clear hz1 hz2
        go_region_held3 (fun w' => Below w4.heap.size w4 w') (exact bl_)
          (first
          | (with_reducible refine (HW1.out _ ‹_›).mono ?_; rintro e wx ⟨rfl, hbx⟩)
          | (with_reducible refine (HW2.out _ ‹_›).mono ?_; rintro e wx ⟨rfl, hbx⟩))
        all_goals
          go_wp2_with fail
          go_ret
          exact ⟨by rw [HPR.out, if_neg hft]; rfl, bl_trans hbel ‹_›⟩
  · have hr' : rightB v n = false := by simpa using hr
    rw [hr'] at HR
    rw [if_neg hr]
    rw [AddrV_eq] at *
    unfold AddrC at *
    go_enter Tryd.func9, Tryd.ntmps9
    go_wp2_with fail
    refine (HR.out _).mono ?_
    rintro e w1 ⟨rfl, hb1⟩
    go_wp2_with fail
    go_ret
    exact ⟨rfl, bl_⟩
end Go.Proofs.YtgdgklibilddgaaDoor

namespace Go.Proofs.YtgdgklibilddgaaDoor

/-- without the last f bits -/
def topN (f n : Nat) : Nat := n / 2 ^ f * 2 ^ f
theorem topN_le (f n : Nat) : topN f n ≤ n := Nat.div_mul_le_self n (2 ^ f)
theorem topN_div (f n : Nat) : topN f n / 2 ^ f = n / 2 ^ f := by unfold topN; exact Nat.mul_div_cancel _ (Nat.two_pow_pos f)
theorem topN_iff {f x y : Nat} (hx : x % 2 ^ f = 0) : topN f y = x ↔ y / 2 ^ f = x / 2 ^ f := by
  constructor
  · rintro rfl; rw [topN_div]
  · intro h
    unfold topN
    rw [h]
    exact Nat.div_mul_cancel (Nat.dvd_of_mod_eq_zero hx)
theorem and_ones (n f : Nat) : n &&& (2 ^ f - 1) = n % 2 ^ f := Nat.and_two_pow_sub_one_eq_mod n f
theorem and_not {n f k : Nat} (hf : f ≤ k) (hn : n < 2 ^ k) : n &&& (2 ^ k - 1 - (2 ^ f - 1)) = topN f n := by
  have hp : 2 ^ f ≤ 2 ^ k := Nat.pow_le_pow_right (by omega) hf
  have hf0 := Nat.two_pow_pos f
  apply Nat.eq_of_testBit_eq
  intro i
  rw [Nat.testBit_and, show 2 ^ k - 1 - (2 ^ f - 1) = 2 ^ k - ((2 ^ f - 1) + 1) by omega, Nat.testBit_two_pow_sub_succ (by omega), Nat.testBit_two_pow_sub_one]
  unfold topN
  rw [Nat.testBit_mul_two_pow, Nat.testBit_div_two_pow]
  by_cases h1 : i < f
  · simp [h1, Nat.not_le.2 h1]
  · have h2 : f ≤ i := by omega
    simp only [h1, decide_false, Bool.not_false, Bool.and_true, ge_iff_le, h2, decide_true, Bool.true_and]
    rw [show i - f + f = i by omega]
    by_cases h3 : i < k
    · simp [h3]
    · have : n.testBit i = false := Nat.testBit_lt_two_pow (Nat.lt_of_lt_of_le hn (Nat.pow_le_pow_right (by omega) (by omega)))
      simp [this]
end Go.Proofs.YtgdgklibilddgaaDoor

namespace Go.Proofs.YtgdgklibilddgaaDoor
open Go.RowKit

section
variable {P : Program} {ops : Array Oper} {Q : Exit → Act → World → Prop} {md : Region.Mode} {S : World → Prop}
theorem get_of_drop {i : Nat} {oi : Oper} {rest : List Oper} (hd : ops.toList.drop i = oi :: rest) : ops[i]? = some oi := by
  have h1 : (ops.toList.drop i)[0]? = some oi := by rw [hd]; rfl
  rw [List.getElem?_drop, Nat.add_zero] at h1
  simpa using h1
/-- wpAnyH_take, the operation read off the list written out -/
theorem take_q {i : Nat} {oi : Oper} {rest : List Oper} {v : Value} {fuel : Nat} {listed : Array Bool} {a : Act} {w : World} (hd : ops.toList.drop i = oi :: rest)
    (hs : Region.noSelect ops = true) (hf : Region.free md ops listed i = true) (hr : (Region.ready md ops listed).contains i = true)
    (hQ : ∀ c a w, Q (.panic c) (a.put oi.dst v) w → Q (.panic c) a w) (hy : YieldsIf P ops S oi v a) (hS : S w)
    (h : wpAnyH P md ops Q S fuel (listed.setIfInBounds i true) (a.put oi.dst v) w) : wpAnyH P md ops Q S (fuel + 1) listed a w :=
  wpAnyH_take (get_of_drop hd) hs hf hr hQ hy hS h
theorem cons_q {fuel : Nat} {listed : Array Bool} {a : Act} {w : World} {i : Nat} {o : Oper} {rest : List Oper} {rs : List Nat} (hd : ops.toList.drop i = o :: rest)
    (h : ∀ K' : Act → World → Prop, Shut (∀ a w, S w → (S w → wpAnyH P md ops Q S fuel (listed.setIfInBounds i true) a w) → K' a w) → if Region.wanted o (yielded ops a.tmps) = true then Oper.wp P o a w K' Q else K' (a.put o.dst undef) w)
    (hs : AllReadyH P md ops Q S fuel listed a w rs) : AllReadyH P md ops Q S fuel listed a w (i :: rs) := AllReadyH.cons (get_of_drop hd) h hs
end

end Go.Proofs.YtgdgklibilddgaaDoor

namespace Go.Proofs.YtgdgklibilddgaaDoor
open Go.RowKit

def PfxC (v : Bool) (n : Nat) (b : Int) : Array Value := #[.bool v, .int .u64 (hi n), .int .u64 (lo n), .int .i64 b]
def PfxV (v : Bool) (n : Nat) (b : Int) : Value := .agg (PfxC v n b)
/-- bits that are not fixed -/
def fr (v : Bool) (b : Int) : Nat := widthN v - b.toNat
theorem fr_le (v : Bool) (b : Int) : fr v b ≤ 128 := by unfold fr; cases v <;> simp [widthN] <;> omega
/-- may it be? -/
def rightP (v : Bool) (n : Nat) (b : Int) : Bool := rightB v n && (decide (0 ≤ b) && (decide (b ≤ (widthN v : Int)) && decide (n % 2 ^ fr v b = 0)))
theorem blk_pfx {w : World} {g : Nat} {v : Bool} {n : Nat} {b : Int} (h : Blk w g 43 (PfxC v n b)) :
    w.cell? ⟨g, 0, none⟩ = some (.bool v) ∧ w.cell? ⟨g, 1, none⟩ = some (.int .u64 (hi n)) ∧ w.cell? ⟨g, 2, none⟩ = some (.int .u64 (lo n)) ∧ w.cell? ⟨g, 3, none⟩ = some (.int .i64 b) ∧ Blk w g 43 (PfxC v n b) :=
  ⟨h.cell 0, h.cell 1, h.cell 2, h.cell 3, h⟩
theorem ones_val {v : Bool} {b : Int} (h0 : 0 ≤ b) (h1 : b ≤ (widthN v : Int)) : onesN ((widthN v : Int) - b) = 2 ^ fr v b - 1 := by
  unfold onesN fr
  have hw : widthN v ≤ 128 := by cases v <;> decide
  obtain ⟨k, rfl⟩ := Int.eq_ofNat_of_zero_le h0
  by_cases e1 : (widthN v : Int) - (k : Int) < 1
  · rw [if_pos e1, show widthN v - (k : Int).toNat = 0 by omega]
  · rw [if_neg e1]
    by_cases e2 : (128 : Int) ≤ (widthN v : Int) - (k : Int)
    · rw [if_pos e2, show widthN v - (k : Int).toNat = 128 by omega]
    · rw [if_neg e2]
      congr 2
      omega
theorem pow_fr (v : Bool) (b : Int) : 2 ^ fr v b - 1 < 340282366920938463463374607431768211456 := by
  have h := Nat.pow_le_pow_right (n := 2) (by omega) (fr_le v b)
  have h2 : (2 : Nat) ^ 128 = 340282366920938463463374607431768211456 := by decide
  have h3 := Nat.two_pow_pos (fr v b)
  omega
set_option maxRecDepth 100000 in
theorem free_c (v : Bool) (n : Nat) (b : Int) (w : World) (h0 : 0 ≤ b) (h1 : b ≤ (widthN v : Int)) :
    Calls Tryd.prog 73 #[PfxV v n b] w fun e w' => e = .returned (numV (2 ^ fr v b - 1)) ∧ Below w.heap.size w w' := by
  have HW := Lib.hid (fun w => width_c v n w)
  have HO := Lib.hid (fun w => ones_c ((widthN v : Int) - b) w)
  rw [ones_val h0 h1] at HO
  have hw : widthN v ≤ 128 := by cases v <;> decide
  generalize 2 ^ fr v b - 1 = F at *
  unfold PfxV PfxC
  simp only [AddrV_eq, AddrC] at HW
  unfold numV at *
  generalize widthN v = wd at *
  have HDEC := Lib.hid (show IntKind.i64.wrap ((wd : Int) - b) = (wd : Int) - b by rw [IntKind.wrap_i64]; omega)
  generalize hi F = fh at *
  generalize lo F = fl at *
  go_enter Tryd.func73, Tryd.ntmps73
  go_wp2_with fail
  have hA : Blk ((w.alloc (Obj.cells #[.bool v, .int .u64 (hi n), .int .u64 (lo n), .int .i64 b] 43)).alloc (Obj.cells #[.int .u64 0, .int .u64 0] 24)) (w.heap.size) 43 (PfxC v n b) := ((Blk.new' _ _ _ _ (by simp) : Blk (w.alloc (Obj.cells #[.bool v, .int .u64 (hi n), .int .u64 (lo n), .int .i64 b] 43)) (w.heap.size) 43 (PfxC v n b))).alloc _
  have hX : Blk ((w.alloc (Obj.cells #[.bool v, .int .u64 (hi n), .int .u64 (lo n), .int .i64 b] 43)).alloc (Obj.cells #[.int .u64 0, .int .u64 0] 24)) (w.heap.size + 1) 24 #[.int .u64 0, .int .u64 0] := (Blk.new' _ _ _ _ (by simp) : Blk ((w.alloc (Obj.cells #[.bool v, .int .u64 (hi n), .int .u64 (lo n), .int .i64 b] 43)).alloc (Obj.cells #[.int .u64 0, .int .u64 0] 24)) (w.heap.size + 1) 24 #[.int .u64 0, .int .u64 0])
  have hbel : Below w.heap.size w ((w.alloc (Obj.cells #[.bool v, .int .u64 (hi n), .int .u64 (lo n), .int .i64 b] 43)).alloc (Obj.cells #[.int .u64 0, .int .u64 0] 24)) := bl_
  have hsz : ((w.alloc (Obj.cells #[.bool v, .int .u64 (hi n), .int .u64 (lo n), .int .i64 b] 43)).alloc (Obj.cells #[.int .u64 0, .int .u64 0] 24)).heap.size = w.heap.size + 1 + 1 := by simp
  generalize (w.alloc (Obj.cells #[.bool v, .int .u64 (hi n), .int .u64 (lo n), .int .i64 b] 43)).alloc (Obj.cells #[.int .u64 0, .int .u64 0] 24) = w0 at *
  have hbel0 : Below w.heap.size w w0.drew := bl_
  refine wp_region_held_drew (S := fun w' => (w'.cell? ⟨w.heap.size, 0, none⟩ = some (.bool v) ∧ w'.cell? ⟨w.heap.size, 1, none⟩ = some (.int .u64 (hi n)) ∧ w'.cell? ⟨w.heap.size, 2, none⟩ = some (.int .u64 (lo n)) ∧ w'.cell? ⟨w.heap.size, 3, none⟩ = some (.int .i64 b) ∧ Blk w' w.heap.size 43 (PfxC v n b)) ∧ (∃ x y, Blk w' (w.heap.size + 1) 24 #[x, y]) ∧ Below w.heap.size w w') (by kernel_rfl) ?_ (fun hHeld => ?_)
  · first | exact ⟨blk_pfx bk_, ⟨_, _, bk_⟩, bl_⟩ | exact ⟨blk_pfx (hHeld.1.2.2.2.2.after (by assumption)), ⟨_, _, hHeld.2.1.choose_spec.choose_spec.after (by assumption)⟩, bl_trans hHeld.2.2 (by assumption)⟩
  refine take_q (i := 0) (v := ?_) rfl (by kernel_rfl) (by kernel_rfl) (by kernel_rfl) (fun _ _ _ h => h) (Or.inl ⟨by rfl, ?_⟩) (by assumption) ?_
  rotate_left
  · intro w hSw; (try dsimp only at hSw); go_simp; (try simp only [HDEC.out]); (try simp only [HDEC2.out]); try with_reducible rfl
  try simp only [Act.put, List.setIfInBounds_toArray, List.set_cons_zero, List.set_cons_succ]
  refine take_q (i := 1) (v := ?_) rfl (by kernel_rfl) (by kernel_rfl) (by kernel_rfl) (fun _ _ _ h => h) (Or.inl ⟨by rfl, ?_⟩) (by assumption) ?_
  rotate_left
  · intro w hSw; (try dsimp only at hSw); go_simp; (try simp only [HDEC.out]); (try simp only [HDEC2.out]); try with_reducible rfl
  try simp only [Act.put, List.setIfInBounds_toArray, List.set_cons_zero, List.set_cons_succ]
  refine take_q (i := 3) (v := ?_) rfl (by kernel_rfl) (by kernel_rfl) (by kernel_rfl) (fun _ _ _ h => h) (Or.inl ⟨by rfl, ?_⟩) (by assumption) ?_
  rotate_left
  · intro w hSw; (try dsimp only at hSw); go_simp; (try simp only [HDEC.out]); (try simp only [HDEC2.out]); try with_reducible rfl
  try simp only [Act.put, List.setIfInBounds_toArray, List.set_cons_zero, List.set_cons_succ]
  refine take_q (i := 4) (v := ?_) rfl (by kernel_rfl) (by kernel_rfl) (by kernel_rfl) (fun _ _ _ h => h) (Or.inl ⟨by rfl, ?_⟩) (by assumption) ?_
  rotate_left
  · intro w hSw; (try dsimp only at hSw); go_simp; (try simp only [HDEC.out]); (try simp only [HDEC2.out]); try with_reducible rfl
  try simp only [Act.put, List.setIfInBounds_toArray, List.set_cons_zero, List.set_cons_succ]
  refine wpAnyH_ready (rs := [2]) (by kernel_rfl) (by simp) ?_
  refine cons_q rfl (fun K hK => ?_) AllReadyH.nil
  go_simp
  with_reducible refine (HW.out _).mono ?_; rintro e w2 ⟨rfl, hb2⟩
  refine hK.out _ _ ?_ (fun hHeld => ?_)
  · first | exact ⟨blk_pfx bk_, ⟨_, _, bk_⟩, bl_⟩ | exact ⟨blk_pfx (hHeld.1.2.2.2.2.after (by assumption)), ⟨_, _, hHeld.2.1.choose_spec.choose_spec.after (by assumption)⟩, bl_trans hHeld.2.2 (by assumption)⟩
  clear hK K
  try simp only [Act.put, List.setIfInBounds_toArray, List.set_cons_zero, List.set_cons_succ]
  refine take_q (i := 5) (v := ?_) rfl (by kernel_rfl) (by kernel_rfl) (by kernel_rfl) (fun _ _ _ h => h) (Or.inl ⟨by rfl, ?_⟩) (by assumption) ?_
  rotate_left
  · intro w hSw; (try dsimp only at hSw); go_simp; (try simp only [HDEC.out]); (try simp only [HDEC2.out]); try with_reducible rfl
  try simp only [Act.put, List.setIfInBounds_toArray, List.set_cons_zero, List.set_cons_succ]
  refine wpAnyH_ready (rs := [6]) (by kernel_rfl) (by simp) ?_
  refine cons_q rfl (fun K hK => ?_) AllReadyH.nil
  go_simp
  with_reducible refine (HO.out _).mono ?_; rintro e w2 ⟨rfl, hb2⟩
  refine hK.out _ _ ?_ (fun hHeld => ?_)
  · first | exact ⟨blk_pfx bk_, ⟨_, _, bk_⟩, bl_⟩ | exact ⟨blk_pfx (hHeld.1.2.2.2.2.after (by assumption)), ⟨_, _, hHeld.2.1.choose_spec.choose_spec.after (by assumption)⟩, bl_trans hHeld.2.2 (by assumption)⟩
  clear hK K
  try simp only [Act.put, List.setIfInBounds_toArray, List.set_cons_zero, List.set_cons_succ]
  obtain ⟨hP, ⟨x, y, hX2⟩, hB⟩ := hHeld
  have x0 := hX2.cell 0
  have x1 := hX2.cell 1
  have z0 := hX2.frozen 0
  have z1 := hX2.frozen 1
  refine wpAnyH_ready (rs := [7]) (by kernel_rfl) (by simp) ?_
  refine cons_q rfl (fun K hK => ?_) AllReadyH.nil
  go_simp
  have hP5 := hP.2.2.2.2
  refine hK.out _ _ ?_ (fun hHeld2 => ?_)
  · exact ⟨blk_pfx bk_, ⟨_, _, (hX2.put 0 _).put 1 _⟩, bl_⟩
  clear hK K
  refine wpAnyH_done (by kernel_rfl) ?_ _
  go_wp2_with fail
  refine bodyPost_ret (v := .agg #[.int .u64 fh, .int .u64 fl]) (results_cell_row (t := 24) Tryd.results73 _ _ (w.heap.size + 1) _ (0, 0) _ rfl ((hX2.put 0 _).put 1 _) Tryd.underlying24 rfl (by kernel_rfl)) rfl ⟨rfl, bl_⟩
theorem and_nat {a b : Nat} :
    Value.agg #[.int .u64 (bits .and .u64 (hi a) (hi b)), .int .u64 (bits .and .u64 (lo a) (lo b))] = numV (a &&& b) := by
  have e64 : (18446744073709551616 : Nat) = 2 ^ 64 := by decide
  unfold numV hi lo
  rw [bits_and_u64_nat _ _ (Nat.mod_lt _ (by omega)) (Nat.mod_lt _ (by omega)), bits_and_u64_nat _ _ (Nat.mod_lt _ (by omega)) (Nat.mod_lt _ (by omega)), e64]
  rw [← Nat.and_mod_two_pow, ← Nat.and_mod_two_pow, ← Nat.shiftRight_eq_div_pow, ← Nat.shiftRight_eq_div_pow, ← Nat.shiftRight_and_distrib, Nat.shiftRight_eq_div_pow]
set_option maxRecDepth 100000 in
theorem andn_c (a b : Nat) (w : World) :
    Calls Tryd.prog 72 #[numV a, numV b] w fun e w' => e = .returned (numV (a &&& b)) ∧ Below w.heap.size w w' := by
  rw [← and_nat]
  unfold numV
  have hA := hi_nn a
  generalize hi a = ah, lo a = al, hi b = bh, lo b = bl at *
  go_enter Tryd.func72, Tryd.ntmps72
  go_wp2_with fail
  refine bodyPost_ret (v := .agg #[.int .u64 (bits .and .u64 ah bh), .int .u64 (bits .and .u64 al bl)]) (results_cell_row (t := 24) Tryd.results72 _ _ (w.heap.size + 1 + 1) _ (0, 0) _ rfl (Blk.new' _ _ _ _ (by simp)) Tryd.underlying24 rfl (by kernel_rfl)) rfl ⟨rfl, bl_⟩
set_option maxRecDepth 100000 in
set_option maxHeartbeats 1600000 in
theorem rightP_c (v : Bool) (n : Nat) (b : Int) (w : World) (hn : n < 340282366920938463463374607431768211456) :
    Calls Tryd.prog 54 #[PfxV v n b] w fun e w' => e = .returned (.bool (rightP v n b)) ∧ Below w.heap.size w w' := by
  have HR := Lib.hid (fun w => right_c v n w hn)
  have HW := Lib.hid (fun w => width_c v n w)
  have hcase : (rightB v n = false ∧ rightP v n b = false) ∨ (rightB v n = true ∧ ¬ 0 ≤ b ∧ rightP v n b = false) ∨ (rightB v n = true ∧ 0 ≤ b ∧ ¬ b ≤ (widthN v : Int) ∧ rightP v n b = false) ∨ (rightB v n = true ∧ 0 ≤ b ∧ b ≤ (widthN v : Int) ∧ rightP v n b = decide (n % 2 ^ fr v b = 0)) := by
    unfold rightP
    cases rightB v n
    · exact .inl ⟨rfl, rfl⟩
    · by_cases h0 : 0 ≤ b
      · by_cases h1 : b ≤ (widthN v : Int)
        · exact .inr (.inr (.inr ⟨rfl, h0, h1, by simp [h0, h1]⟩))
        · exact .inr (.inr (.inl ⟨rfl, h0, h1, by simp [h1]⟩))
      · exact .inr (.inl ⟨rfl, h0, by simp [h0]⟩)
  rcases hcase with ⟨hr, hp⟩ | ⟨hr, h0, hp⟩ | ⟨hr, h0, h1, hp⟩ | ⟨hr, h0, h1, hp⟩
  · rw [hr] at HR
    rw [hp]
    clear hp hr
    unfold PfxV PfxC
    simp only [AddrV_eq, AddrC] at HR HW
    generalize widthN v = wd at *
    go_enter Tryd.func54, Tryd.ntmps54
    go_wp2_with fail
    have hA : Blk (w.alloc (Obj.cells #[.bool v, .int .u64 (hi n), .int .u64 (lo n), .int .i64 b] 43)) (w.heap.size) 43 (PfxC v n b) := (Blk.new' _ _ _ _ (by simp) : Blk (w.alloc (Obj.cells #[.bool v, .int .u64 (hi n), .int .u64 (lo n), .int .i64 b] 43)) (w.heap.size) 43 (PfxC v n b))
    have hbel : Below w.heap.size w (w.alloc (Obj.cells #[.bool v, .int .u64 (hi n), .int .u64 (lo n), .int .i64 b] 43)) := bl_
    have hsz : (w.alloc (Obj.cells #[.bool v, .int .u64 (hi n), .int .u64 (lo n), .int .i64 b] 43)).heap.size = w.heap.size + 1 := by simp
    generalize w.alloc (Obj.cells #[.bool v, .int .u64 (hi n), .int .u64 (lo n), .int .i64 b] 43) = w0 at *
    have hbel0 : Below w.heap.size w w0.drew := bl_
    refine wp_region_held_drew (S := fun w' => (w'.cell? ⟨w.heap.size, 0, none⟩ = some (.bool v) ∧ w'.cell? ⟨w.heap.size, 1, none⟩ = some (.int .u64 (hi n)) ∧ w'.cell? ⟨w.heap.size, 2, none⟩ = some (.int .u64 (lo n)) ∧ w'.cell? ⟨w.heap.size, 3, none⟩ = some (.int .i64 b) ∧ Blk w' w.heap.size 43 (PfxC v n b)) ∧ Below w.heap.size w w') (by kernel_rfl) ?_ (fun hHeld => ?_)
    · exact ⟨blk_pfx bk_, bl_⟩
    refine take_q (i := 0) (v := ?_) rfl (by kernel_rfl) (by kernel_rfl) (by kernel_rfl) (fun _ _ _ h => h) (Or.inl ⟨by rfl, ?_⟩) (by assumption) ?_
    rotate_left
    · intro w hSw; (try dsimp only at hSw); go_simp; (try simp only [HDEC.out]); (try simp only [HDEC2.out]); try with_reducible rfl
    try simp only [Act.put, List.setIfInBounds_toArray, List.set_cons_zero, List.set_cons_succ]
    refine take_q (i := 1) (v := ?_) rfl (by kernel_rfl) (by kernel_rfl) (by kernel_rfl) (fun _ _ _ h => h) (Or.inl ⟨by rfl, ?_⟩) (by assumption) ?_
    rotate_left
    · intro w hSw; (try dsimp only at hSw); go_simp; (try simp only [HDEC.out]); (try simp only [HDEC2.out]); try with_reducible rfl
    try simp only [Act.put, List.setIfInBounds_toArray, List.set_cons_zero, List.set_cons_succ]
    refine wpAnyH_ready (rs := [2]) (by kernel_rfl) (by simp) ?_
    refine cons_q rfl (fun K hK => ?_) AllReadyH.nil
    go_simp
    with_reducible refine (HR.out _).mono ?_; rintro e w1 ⟨rfl, hb1⟩
    refine hK.out _ _ ?_ (fun hHeld => ?_)
    · exact ⟨blk_pfx bk_, bl_⟩
    clear hK K
    try simp only [Act.put, List.setIfInBounds_toArray, List.set_cons_zero, List.set_cons_succ]
    refine take_q (i := 3) (v := ?_) rfl (by kernel_rfl) (by kernel_rfl) (by kernel_rfl) (fun _ _ _ h => h) (Or.inl ⟨by rfl, ?_⟩) (by assumption) ?_
    rotate_left
    · intro w hSw; (try dsimp only at hSw); go_simp; (try simp only [HDEC.out]); (try simp only [HDEC2.out]); try with_reducible rfl
    try simp only [Act.put, List.setIfInBounds_toArray, List.set_cons_zero, List.set_cons_succ]
    refine take_q (i := 4) (v := undef) rfl (by kernel_rfl) (by kernel_rfl) (by kernel_rfl) (fun _ _ _ h => h) (Or.inr ⟨by rfl, rfl⟩) (by assumption) ?_
    try simp only [Act.put, List.setIfInBounds_toArray, List.set_cons_zero, List.set_cons_succ]
    refine take_q (i := 5) (v := undef) rfl (by kernel_rfl) (by kernel_rfl) (by kernel_rfl) (fun _ _ _ h => h) (Or.inr ⟨by rfl, rfl⟩) (by assumption) ?_
    try simp only [Act.put, List.setIfInBounds_toArray, List.set_cons_zero, List.set_cons_succ]
    refine take_q (i := 6) (v := undef) rfl (by kernel_rfl) (by kernel_rfl) (by kernel_rfl) (fun _ _ _ h => h) (Or.inr ⟨by rfl, rfl⟩) (by assumption) ?_
    try simp only [Act.put, List.setIfInBounds_toArray, List.set_cons_zero, List.set_cons_succ]
    refine take_q (i := 7) (v := ?_) rfl (by kernel_rfl) (by kernel_rfl) (by kernel_rfl) (fun _ _ _ h => h) (Or.inl ⟨by rfl, ?_⟩) (by assumption) ?_
    rotate_left
    · intro w hSw; (try dsimp only at hSw); go_simp; (try simp only [HDEC.out]); (try simp only [HDEC2.out]); try with_reducible rfl
    try simp only [Act.put, List.setIfInBounds_toArray, List.set_cons_zero, List.set_cons_succ]
    refine take_q (i := 8) (v := ?_) rfl (by kernel_rfl) (by kernel_rfl) (by kernel_rfl) (fun _ _ _ h => h) (Or.inl ⟨by rfl, ?_⟩) (by assumption) ?_
    rotate_left
    · intro w hSw; (try dsimp only at hSw); go_simp; (try simp only [HDEC.out]); (try simp only [HDEC2.out]); try with_reducible rfl
    try simp only [Act.put, List.setIfInBounds_toArray, List.set_cons_zero, List.set_cons_succ]
    refine take_q (i := 9) (v := undef) rfl (by kernel_rfl) (by kernel_rfl) (by kernel_rfl) (fun _ _ _ h => h) (Or.inr ⟨by rfl, rfl⟩) (by assumption) ?_
    try simp only [Act.put, List.setIfInBounds_toArray, List.set_cons_zero, List.set_cons_succ]
    refine take_q (i := 10) (v := undef) rfl (by kernel_rfl) (by kernel_rfl) (by kernel_rfl) (fun _ _ _ h => h) (Or.inr ⟨by rfl, rfl⟩) (by assumption) ?_
    try simp only [Act.put, List.setIfInBounds_toArray, List.set_cons_zero, List.set_cons_succ]
    refine take_q (i := 11) (v := undef) rfl (by kernel_rfl) (by kernel_rfl) (by kernel_rfl) (fun _ _ _ h => h) (Or.inr ⟨by rfl, rfl⟩) (by assumption) ?_
    try simp only [Act.put, List.setIfInBounds_toArray, List.set_cons_zero, List.set_cons_succ]
    refine take_q (i := 12) (v := undef) rfl (by kernel_rfl) (by kernel_rfl) (by kernel_rfl) (fun _ _ _ h => h) (Or.inr ⟨by rfl, rfl⟩) (by assumption) ?_
    try simp only [Act.put, List.setIfInBounds_toArray, List.set_cons_zero, List.set_cons_succ]
    refine take_q (i := 13) (v := undef) rfl (by kernel_rfl) (by kernel_rfl) (by kernel_rfl) (fun _ _ _ h => h) (Or.inr ⟨by rfl, rfl⟩) (by assumption) ?_
    try simp only [Act.put, List.setIfInBounds_toArray, List.set_cons_zero, List.set_cons_succ]
    refine take_q (i := 14) (v := undef) rfl (by kernel_rfl) (by kernel_rfl) (by kernel_rfl) (fun _ _ _ h => h) (Or.inr ⟨by rfl, rfl⟩) (by assumption) ?_
    try simp only [Act.put, List.setIfInBounds_toArray, List.set_cons_zero, List.set_cons_succ]
    refine take_q (i := 15) (v := ?_) rfl (by kernel_rfl) (by kernel_rfl) (by kernel_rfl) (fun _ _ _ h => h) (Or.inl ⟨by rfl, ?_⟩) (by assumption) ?_
    rotate_left
    · intro w hSw; (try dsimp only at hSw); go_simp; (try simp only [HDEC.out]); (try simp only [HDEC2.out]); try with_reducible rfl
    try simp only [Act.put, List.setIfInBounds_toArray, List.set_cons_zero, List.set_cons_succ]
    refine take_q (i := 16) (v := ?_) rfl (by kernel_rfl) (by kernel_rfl) (by kernel_rfl) (fun _ _ _ h => h) (Or.inl ⟨by rfl, ?_⟩) (by assumption) ?_
    rotate_left
    · intro w hSw; (try dsimp only at hSw); go_simp; (try simp only [HDEC.out]); (try simp only [HDEC2.out]); try with_reducible rfl
    try simp only [Act.put, List.setIfInBounds_toArray, List.set_cons_zero, List.set_cons_succ]
    refine take_q (i := 17) (v := undef) rfl (by kernel_rfl) (by kernel_rfl) (by kernel_rfl) (fun _ _ _ h => h) (Or.inr ⟨by rfl, rfl⟩) (by assumption) ?_
    try simp only [Act.put, List.setIfInBounds_toArray, List.set_cons_zero, List.set_cons_succ]
    refine take_q (i := 18) (v := undef) rfl (by kernel_rfl) (by kernel_rfl) (by kernel_rfl) (fun _ _ _ h => h) (Or.inr ⟨by rfl, rfl⟩) (by assumption) ?_
    try simp only [Act.put, List.setIfInBounds_toArray, List.set_cons_zero, List.set_cons_succ]
    refine take_q (i := 19) (v := undef) rfl (by kernel_rfl) (by kernel_rfl) (by kernel_rfl) (fun _ _ _ h => h) (Or.inr ⟨by rfl, rfl⟩) (by assumption) ?_
    try simp only [Act.put, List.setIfInBounds_toArray, List.set_cons_zero, List.set_cons_succ]
    refine take_q (i := 20) (v := undef) rfl (by kernel_rfl) (by kernel_rfl) (by kernel_rfl) (fun _ _ _ h => h) (Or.inr ⟨by rfl, rfl⟩) (by assumption) ?_
    try simp only [Act.put, List.setIfInBounds_toArray, List.set_cons_zero, List.set_cons_succ]
    refine take_q (i := 21) (v := undef) rfl (by kernel_rfl) (by kernel_rfl) (by kernel_rfl) (fun _ _ _ h => h) (Or.inr ⟨by rfl, rfl⟩) (by assumption) ?_
    try simp only [Act.put, List.setIfInBounds_toArray, List.set_cons_zero, List.set_cons_succ]
    refine take_q (i := 22) (v := undef) rfl (by kernel_rfl) (by kernel_rfl) (by kernel_rfl) (fun _ _ _ h => h) (Or.inr ⟨by rfl, rfl⟩) (by assumption) ?_
    try simp only [Act.put, List.setIfInBounds_toArray, List.set_cons_zero, List.set_cons_succ]
    refine take_q (i := 23) (v := undef) rfl (by kernel_rfl) (by kernel_rfl) (by kernel_rfl) (fun _ _ _ h => h) (Or.inr ⟨by rfl, rfl⟩) (by assumption) ?_
    try simp only [Act.put, List.setIfInBounds_toArray, List.set_cons_zero, List.set_cons_succ]
    refine take_q (i := 24) (v := undef) rfl (by kernel_rfl) (by kernel_rfl) (by kernel_rfl) (fun _ _ _ h => h) (Or.inr ⟨by rfl, rfl⟩) (by assumption) ?_
    try simp only [Act.put, List.setIfInBounds_toArray, List.set_cons_zero, List.set_cons_succ]
    refine take_q (i := 25) (v := ?_) rfl (by kernel_rfl) (by kernel_rfl) (by kernel_rfl) (fun _ _ _ h => h) (Or.inl ⟨by rfl, ?_⟩) (by assumption) ?_
    rotate_left
    · intro w hSw; (try dsimp only at hSw); go_simp; (try simp only [HDEC.out]); (try simp only [HDEC2.out]); try with_reducible rfl
    try simp only [Act.put, List.setIfInBounds_toArray, List.set_cons_zero, List.set_cons_succ]
    refine take_q (i := 26) (v := ?_) rfl (by kernel_rfl) (by kernel_rfl) (by kernel_rfl) (fun _ _ _ h => h) (Or.inl ⟨by rfl, ?_⟩) (by assumption) ?_
    rotate_left
    · intro w hSw; (try dsimp only at hSw); go_simp; (try simp only [HDEC.out]); (try simp only [HDEC2.out]); try with_reducible rfl
    try simp only [Act.put, List.setIfInBounds_toArray, List.set_cons_zero, List.set_cons_succ]
    refine wpAnyH_done (by kernel_rfl) ?_ _
    go_wp2_with fail
    go_ret
    exact ⟨rfl, hHeld.2⟩
  · rw [hr] at HR
    rw [hp]
    clear hp hr
    unfold PfxV PfxC
    simp only [AddrV_eq, AddrC] at HR HW
    generalize widthN v = wd at *
    have HDEC := Lib.hid (show decide (0 ≤ b) = false by simp; omega)
    clear h0
    go_enter Tryd.func54, Tryd.ntmps54
    go_wp2_with fail
    have hA : Blk (w.alloc (Obj.cells #[.bool v, .int .u64 (hi n), .int .u64 (lo n), .int .i64 b] 43)) (w.heap.size) 43 (PfxC v n b) := (Blk.new' _ _ _ _ (by simp) : Blk (w.alloc (Obj.cells #[.bool v, .int .u64 (hi n), .int .u64 (lo n), .int .i64 b] 43)) (w.heap.size) 43 (PfxC v n b))
    have hbel : Below w.heap.size w (w.alloc (Obj.cells #[.bool v, .int .u64 (hi n), .int .u64 (lo n), .int .i64 b] 43)) := bl_
    have hsz : (w.alloc (Obj.cells #[.bool v, .int .u64 (hi n), .int .u64 (lo n), .int .i64 b] 43)).heap.size = w.heap.size + 1 := by simp
    generalize w.alloc (Obj.cells #[.bool v, .int .u64 (hi n), .int .u64 (lo n), .int .i64 b] 43) = w0 at *
    have hbel0 : Below w.heap.size w w0.drew := bl_
    refine wp_region_held_drew (S := fun w' => (w'.cell? ⟨w.heap.size, 0, none⟩ = some (.bool v) ∧ w'.cell? ⟨w.heap.size, 1, none⟩ = some (.int .u64 (hi n)) ∧ w'.cell? ⟨w.heap.size, 2, none⟩ = some (.int .u64 (lo n)) ∧ w'.cell? ⟨w.heap.size, 3, none⟩ = some (.int .i64 b) ∧ Blk w' w.heap.size 43 (PfxC v n b)) ∧ Below w.heap.size w w') (by kernel_rfl) ?_ (fun hHeld => ?_)
    · exact ⟨blk_pfx bk_, bl_⟩
    refine take_q (i := 0) (v := ?_) rfl (by kernel_rfl) (by kernel_rfl) (by kernel_rfl) (fun _ _ _ h => h) (Or.inl ⟨by rfl, ?_⟩) (by assumption) ?_
    rotate_left
    · intro w hSw; (try dsimp only at hSw); go_simp; (try simp only [HDEC.out]); (try simp only [HDEC2.out]); try with_reducible rfl
    try simp only [Act.put, List.setIfInBounds_toArray, List.set_cons_zero, List.set_cons_succ]
    refine take_q (i := 1) (v := ?_) rfl (by kernel_rfl) (by kernel_rfl) (by kernel_rfl) (fun _ _ _ h => h) (Or.inl ⟨by rfl, ?_⟩) (by assumption) ?_
    rotate_left
    · intro w hSw; (try dsimp only at hSw); go_simp; (try simp only [HDEC.out]); (try simp only [HDEC2.out]); try with_reducible rfl
    try simp only [Act.put, List.setIfInBounds_toArray, List.set_cons_zero, List.set_cons_succ]
    refine wpAnyH_ready (rs := [2]) (by kernel_rfl) (by simp) ?_
    refine cons_q rfl (fun K hK => ?_) AllReadyH.nil
    go_simp
    with_reducible refine (HR.out _).mono ?_; rintro e w1 ⟨rfl, hb1⟩
    refine hK.out _ _ ?_ (fun hHeld => ?_)
    · exact ⟨blk_pfx bk_, bl_⟩
    clear hK K
    try simp only [Act.put, List.setIfInBounds_toArray, List.set_cons_zero, List.set_cons_succ]
    refine take_q (i := 3) (v := ?_) rfl (by kernel_rfl) (by kernel_rfl) (by kernel_rfl) (fun _ _ _ h => h) (Or.inl ⟨by rfl, ?_⟩) (by assumption) ?_
    rotate_left
    · intro w hSw; (try dsimp only at hSw); go_simp; (try simp only [HDEC.out]); (try simp only [HDEC2.out]); try with_reducible rfl
    try simp only [Act.put, List.setIfInBounds_toArray, List.set_cons_zero, List.set_cons_succ]
    refine take_q (i := 4) (v := ?_) rfl (by kernel_rfl) (by kernel_rfl) (by kernel_rfl) (fun _ _ _ h => h) (Or.inl ⟨by rfl, ?_⟩) (by assumption) ?_
    rotate_left
    · intro w hSw; (try dsimp only at hSw); go_simp; (try simp only [HDEC.out]); (try simp only [HDEC2.out]); try with_reducible rfl
    try simp only [Act.put, List.setIfInBounds_toArray, List.set_cons_zero, List.set_cons_succ]
    refine take_q (i := 5) (v := ?_) rfl (by kernel_rfl) (by kernel_rfl) (by kernel_rfl) (fun _ _ _ h => h) (Or.inl ⟨by rfl, ?_⟩) (by assumption) ?_
    rotate_left
    · intro w hSw; (try dsimp only at hSw); go_simp; (try simp only [HDEC.out]); (try simp only [HDEC2.out]); try with_reducible rfl
    try simp only [Act.put, List.setIfInBounds_toArray, List.set_cons_zero, List.set_cons_succ]
    refine take_q (i := 6) (v := ?_) rfl (by kernel_rfl) (by kernel_rfl) (by kernel_rfl) (fun _ _ _ h => h) (Or.inl ⟨by rfl, ?_⟩) (by assumption) ?_
    rotate_left
    · intro w hSw; (try dsimp only at hSw); go_simp; (try simp only [HDEC.out]); (try simp only [HDEC2.out]); try with_reducible rfl
    try simp only [Act.put, List.setIfInBounds_toArray, List.set_cons_zero, List.set_cons_succ]
    refine take_q (i := 7) (v := ?_) rfl (by kernel_rfl) (by kernel_rfl) (by kernel_rfl) (fun _ _ _ h => h) (Or.inl ⟨by rfl, ?_⟩) (by assumption) ?_
    rotate_left
    · intro w hSw; (try dsimp only at hSw); go_simp; (try simp only [HDEC.out]); (try simp only [HDEC2.out]); try with_reducible rfl
    try simp only [Act.put, List.setIfInBounds_toArray, List.set_cons_zero, List.set_cons_succ]
    refine take_q (i := 8) (v := ?_) rfl (by kernel_rfl) (by kernel_rfl) (by kernel_rfl) (fun _ _ _ h => h) (Or.inl ⟨by rfl, ?_⟩) (by assumption) ?_
    rotate_left
    · intro w hSw; (try dsimp only at hSw); go_simp; (try simp only [HDEC.out]); (try simp only [HDEC2.out]); try with_reducible rfl
    try simp only [Act.put, List.setIfInBounds_toArray, List.set_cons_zero, List.set_cons_succ]
    refine take_q (i := 9) (v := undef) rfl (by kernel_rfl) (by kernel_rfl) (by kernel_rfl) (fun _ _ _ h => h) (Or.inr ⟨by rfl, rfl⟩) (by assumption) ?_
    try simp only [Act.put, List.setIfInBounds_toArray, List.set_cons_zero, List.set_cons_succ]
    refine take_q (i := 10) (v := undef) rfl (by kernel_rfl) (by kernel_rfl) (by kernel_rfl) (fun _ _ _ h => h) (Or.inr ⟨by rfl, rfl⟩) (by assumption) ?_
    try simp only [Act.put, List.setIfInBounds_toArray, List.set_cons_zero, List.set_cons_succ]
    refine take_q (i := 11) (v := undef) rfl (by kernel_rfl) (by kernel_rfl) (by kernel_rfl) (fun _ _ _ h => h) (Or.inr ⟨by rfl, rfl⟩) (by assumption) ?_
    try simp only [Act.put, List.setIfInBounds_toArray, List.set_cons_zero, List.set_cons_succ]
    refine take_q (i := 12) (v := undef) rfl (by kernel_rfl) (by kernel_rfl) (by kernel_rfl) (fun _ _ _ h => h) (Or.inr ⟨by rfl, rfl⟩) (by assumption) ?_
    try simp only [Act.put, List.setIfInBounds_toArray, List.set_cons_zero, List.set_cons_succ]
    refine take_q (i := 13) (v := undef) rfl (by kernel_rfl) (by kernel_rfl) (by kernel_rfl) (fun _ _ _ h => h) (Or.inr ⟨by rfl, rfl⟩) (by assumption) ?_
    try simp only [Act.put, List.setIfInBounds_toArray, List.set_cons_zero, List.set_cons_succ]
    refine take_q (i := 14) (v := undef) rfl (by kernel_rfl) (by kernel_rfl) (by kernel_rfl) (fun _ _ _ h => h) (Or.inr ⟨by rfl, rfl⟩) (by assumption) ?_
    try simp only [Act.put, List.setIfInBounds_toArray, List.set_cons_zero, List.set_cons_succ]
    refine take_q (i := 15) (v := ?_) rfl (by kernel_rfl) (by kernel_rfl) (by kernel_rfl) (fun _ _ _ h => h) (Or.inl ⟨by rfl, ?_⟩) (by assumption) ?_
    rotate_left
    · intro w hSw; (try dsimp only at hSw); go_simp; (try simp only [HDEC.out]); (try simp only [HDEC2.out]); try with_reducible rfl
    try simp only [Act.put, List.setIfInBounds_toArray, List.set_cons_zero, List.set_cons_succ]
    refine take_q (i := 16) (v := ?_) rfl (by kernel_rfl) (by kernel_rfl) (by kernel_rfl) (fun _ _ _ h => h) (Or.inl ⟨by rfl, ?_⟩) (by assumption) ?_
    rotate_left
    · intro w hSw; (try dsimp only at hSw); go_simp; (try simp only [HDEC.out]); (try simp only [HDEC2.out]); try with_reducible rfl
    try simp only [Act.put, List.setIfInBounds_toArray, List.set_cons_zero, List.set_cons_succ]
    refine take_q (i := 17) (v := undef) rfl (by kernel_rfl) (by kernel_rfl) (by kernel_rfl) (fun _ _ _ h => h) (Or.inr ⟨by rfl, rfl⟩) (by assumption) ?_
    try simp only [Act.put, List.setIfInBounds_toArray, List.set_cons_zero, List.set_cons_succ]
    refine take_q (i := 18) (v := undef) rfl (by kernel_rfl) (by kernel_rfl) (by kernel_rfl) (fun _ _ _ h => h) (Or.inr ⟨by rfl, rfl⟩) (by assumption) ?_
    try simp only [Act.put, List.setIfInBounds_toArray, List.set_cons_zero, List.set_cons_succ]
    refine take_q (i := 19) (v := undef) rfl (by kernel_rfl) (by kernel_rfl) (by kernel_rfl) (fun _ _ _ h => h) (Or.inr ⟨by rfl, rfl⟩) (by assumption) ?_
    try simp only [Act.put, List.setIfInBounds_toArray, List.set_cons_zero, List.set_cons_succ]
    refine take_q (i := 20) (v := undef) rfl (by kernel_rfl) (by kernel_rfl) (by kernel_rfl) (fun _ _ _ h => h) (Or.inr ⟨by rfl, rfl⟩) (by assumption) ?_
    try simp only [Act.put, List.setIfInBounds_toArray, List.set_cons_zero, List.set_cons_succ]
    refine take_q (i := 21) (v := undef) rfl (by kernel_rfl) (by kernel_rfl) (by kernel_rfl) (fun _ _ _ h => h) (Or.inr ⟨by rfl, rfl⟩) (by assumption) ?_
    try simp only [Act.put, List.setIfInBounds_toArray, List.set_cons_zero, List.set_cons_succ]
    refine take_q (i := 22) (v := undef) rfl (by kernel_rfl) (by kernel_rfl) (by kernel_rfl) (fun _ _ _ h => h) (Or.inr ⟨by rfl, rfl⟩) (by assumption) ?_
    try simp only [Act.put, List.setIfInBounds_toArray, List.set_cons_zero, List.set_cons_succ]
    refine take_q (i := 23) (v := undef) rfl (by kernel_rfl) (by kernel_rfl) (by kernel_rfl) (fun _ _ _ h => h) (Or.inr ⟨by rfl, rfl⟩) (by assumption) ?_
    try simp only [Act.put, List.setIfInBounds_toArray, List.set_cons_zero, List.set_cons_succ]
    refine take_q (i := 24) (v := undef) rfl (by kernel_rfl) (by kernel_rfl) (by kernel_rfl) (fun _ _ _ h => h) (Or.inr ⟨by rfl, rfl⟩) (by assumption) ?_
    try simp only [Act.put, List.setIfInBounds_toArray, List.set_cons_zero, List.set_cons_succ]
    refine take_q (i := 25) (v := ?_) rfl (by kernel_rfl) (by kernel_rfl) (by kernel_rfl) (fun _ _ _ h => h) (Or.inl ⟨by rfl, ?_⟩) (by assumption) ?_
    rotate_left
    · intro w hSw; (try dsimp only at hSw); go_simp; (try simp only [HDEC.out]); (try simp only [HDEC2.out]); try with_reducible rfl
    try simp only [Act.put, List.setIfInBounds_toArray, List.set_cons_zero, List.set_cons_succ]
    refine take_q (i := 26) (v := ?_) rfl (by kernel_rfl) (by kernel_rfl) (by kernel_rfl) (fun _ _ _ h => h) (Or.inl ⟨by rfl, ?_⟩) (by assumption) ?_
    rotate_left
    · intro w hSw; (try dsimp only at hSw); go_simp; (try simp only [HDEC.out]); (try simp only [HDEC2.out]); try with_reducible rfl
    try simp only [Act.put, List.setIfInBounds_toArray, List.set_cons_zero, List.set_cons_succ]
    refine wpAnyH_done (by kernel_rfl) ?_ _
    go_wp2_with fail
    go_ret
    exact ⟨rfl, hHeld.2⟩
  · rw [hr] at HR
    rw [hp]
    clear hp hr
    unfold PfxV PfxC
    simp only [AddrV_eq, AddrC] at HR HW
    generalize widthN v = wd at *
    have HDEC := Lib.hid (show decide (0 ≤ b) = true by simp; omega)
    have HDEC2 := Lib.hid (show decide (b ≤ (wd : Int)) = false by simp; omega)
    clear h0 h1
    go_enter Tryd.func54, Tryd.ntmps54
    go_wp2_with fail
    have hA : Blk (w.alloc (Obj.cells #[.bool v, .int .u64 (hi n), .int .u64 (lo n), .int .i64 b] 43)) (w.heap.size) 43 (PfxC v n b) := (Blk.new' _ _ _ _ (by simp) : Blk (w.alloc (Obj.cells #[.bool v, .int .u64 (hi n), .int .u64 (lo n), .int .i64 b] 43)) (w.heap.size) 43 (PfxC v n b))
    have hbel : Below w.heap.size w (w.alloc (Obj.cells #[.bool v, .int .u64 (hi n), .int .u64 (lo n), .int .i64 b] 43)) := bl_
    have hsz : (w.alloc (Obj.cells #[.bool v, .int .u64 (hi n), .int .u64 (lo n), .int .i64 b] 43)).heap.size = w.heap.size + 1 := by simp
    generalize w.alloc (Obj.cells #[.bool v, .int .u64 (hi n), .int .u64 (lo n), .int .i64 b] 43) = w0 at *
    have hbel0 : Below w.heap.size w w0.drew := bl_
    refine wp_region_held_drew (S := fun w' => (w'.cell? ⟨w.heap.size, 0, none⟩ = some (.bool v) ∧ w'.cell? ⟨w.heap.size, 1, none⟩ = some (.int .u64 (hi n)) ∧ w'.cell? ⟨w.heap.size, 2, none⟩ = some (.int .u64 (lo n)) ∧ w'.cell? ⟨w.heap.size, 3, none⟩ = some (.int .i64 b) ∧ Blk w' w.heap.size 43 (PfxC v n b)) ∧ Below w.heap.size w w') (by kernel_rfl) ?_ (fun hHeld => ?_)
    · exact ⟨blk_pfx bk_, bl_⟩
    refine take_q (i := 0) (v := ?_) rfl (by kernel_rfl) (by kernel_rfl) (by kernel_rfl) (fun _ _ _ h => h) (Or.inl ⟨by rfl, ?_⟩) (by assumption) ?_
    rotate_left
    · intro w hSw; (try dsimp only at hSw); go_simp; (try simp only [HDEC.out]); (try simp only [HDEC2.out]); try with_reducible rfl
    try simp only [Act.put, List.setIfInBounds_toArray, List.set_cons_zero, List.set_cons_succ]
    refine take_q (i := 1) (v := ?_) rfl (by kernel_rfl) (by kernel_rfl) (by kernel_rfl) (fun _ _ _ h => h) (Or.inl ⟨by rfl, ?_⟩) (by assumption) ?_
    rotate_left
    · intro w hSw; (try dsimp only at hSw); go_simp; (try simp only [HDEC.out]); (try simp only [HDEC2.out]); try with_reducible rfl
    try simp only [Act.put, List.setIfInBounds_toArray, List.set_cons_zero, List.set_cons_succ]
    refine wpAnyH_ready (rs := [2]) (by kernel_rfl) (by simp) ?_
    refine cons_q rfl (fun K hK => ?_) AllReadyH.nil
    go_simp
    with_reducible refine (HR.out _).mono ?_; rintro e w1 ⟨rfl, hb1⟩
    refine hK.out _ _ ?_ (fun hHeld => ?_)
    · exact ⟨blk_pfx bk_, bl_⟩
    clear hK K
    try simp only [Act.put, List.setIfInBounds_toArray, List.set_cons_zero, List.set_cons_succ]
    refine take_q (i := 3) (v := ?_) rfl (by kernel_rfl) (by kernel_rfl) (by kernel_rfl) (fun _ _ _ h => h) (Or.inl ⟨by rfl, ?_⟩) (by assumption) ?_
    rotate_left
    · intro w hSw; (try dsimp only at hSw); go_simp; (try simp only [HDEC.out]); (try simp only [HDEC2.out]); try with_reducible rfl
    try simp only [Act.put, List.setIfInBounds_toArray, List.set_cons_zero, List.set_cons_succ]
    refine take_q (i := 4) (v := ?_) rfl (by kernel_rfl) (by kernel_rfl) (by kernel_rfl) (fun _ _ _ h => h) (Or.inl ⟨by rfl, ?_⟩) (by assumption) ?_
    rotate_left
    · intro w hSw; (try dsimp only at hSw); go_simp; (try simp only [HDEC.out]); (try simp only [HDEC2.out]); try with_reducible rfl
    try simp only [Act.put, List.setIfInBounds_toArray, List.set_cons_zero, List.set_cons_succ]
    refine take_q (i := 5) (v := ?_) rfl (by kernel_rfl) (by kernel_rfl) (by kernel_rfl) (fun _ _ _ h => h) (Or.inl ⟨by rfl, ?_⟩) (by assumption) ?_
    rotate_left
    · intro w hSw; (try dsimp only at hSw); go_simp; (try simp only [HDEC.out]); (try simp only [HDEC2.out]); try with_reducible rfl
    try simp only [Act.put, List.setIfInBounds_toArray, List.set_cons_zero, List.set_cons_succ]
    refine take_q (i := 6) (v := ?_) rfl (by kernel_rfl) (by kernel_rfl) (by kernel_rfl) (fun _ _ _ h => h) (Or.inl ⟨by rfl, ?_⟩) (by assumption) ?_
    rotate_left
    · intro w hSw; (try dsimp only at hSw); go_simp; (try simp only [HDEC.out]); (try simp only [HDEC2.out]); try with_reducible rfl
    try simp only [Act.put, List.setIfInBounds_toArray, List.set_cons_zero, List.set_cons_succ]
    refine take_q (i := 7) (v := ?_) rfl (by kernel_rfl) (by kernel_rfl) (by kernel_rfl) (fun _ _ _ h => h) (Or.inl ⟨by rfl, ?_⟩) (by assumption) ?_
    rotate_left
    · intro w hSw; (try dsimp only at hSw); go_simp; (try simp only [HDEC.out]); (try simp only [HDEC2.out]); try with_reducible rfl
    try simp only [Act.put, List.setIfInBounds_toArray, List.set_cons_zero, List.set_cons_succ]
    refine take_q (i := 8) (v := ?_) rfl (by kernel_rfl) (by kernel_rfl) (by kernel_rfl) (fun _ _ _ h => h) (Or.inl ⟨by rfl, ?_⟩) (by assumption) ?_
    rotate_left
    · intro w hSw; (try dsimp only at hSw); go_simp; (try simp only [HDEC.out]); (try simp only [HDEC2.out]); try with_reducible rfl
    try simp only [Act.put, List.setIfInBounds_toArray, List.set_cons_zero, List.set_cons_succ]
    refine take_q (i := 9) (v := ?_) rfl (by kernel_rfl) (by kernel_rfl) (by kernel_rfl) (fun _ _ _ h => h) (Or.inl ⟨by rfl, ?_⟩) (by assumption) ?_
    rotate_left
    · intro w hSw; (try dsimp only at hSw); go_simp; (try simp only [HDEC.out]); (try simp only [HDEC2.out]); try with_reducible rfl
    try simp only [Act.put, List.setIfInBounds_toArray, List.set_cons_zero, List.set_cons_succ]
    refine take_q (i := 10) (v := ?_) rfl (by kernel_rfl) (by kernel_rfl) (by kernel_rfl) (fun _ _ _ h => h) (Or.inl ⟨by rfl, ?_⟩) (by assumption) ?_
    rotate_left
    · intro w hSw; (try dsimp only at hSw); go_simp; (try simp only [HDEC.out]); (try simp only [HDEC2.out]); try with_reducible rfl
    try simp only [Act.put, List.setIfInBounds_toArray, List.set_cons_zero, List.set_cons_succ]
    refine take_q (i := 11) (v := ?_) rfl (by kernel_rfl) (by kernel_rfl) (by kernel_rfl) (fun _ _ _ h => h) (Or.inl ⟨by rfl, ?_⟩) (by assumption) ?_
    rotate_left
    · intro w hSw; (try dsimp only at hSw); go_simp; (try simp only [HDEC.out]); (try simp only [HDEC2.out]); try with_reducible rfl
    try simp only [Act.put, List.setIfInBounds_toArray, List.set_cons_zero, List.set_cons_succ]
    refine take_q (i := 12) (v := ?_) rfl (by kernel_rfl) (by kernel_rfl) (by kernel_rfl) (fun _ _ _ h => h) (Or.inl ⟨by rfl, ?_⟩) (by assumption) ?_
    rotate_left
    · intro w hSw; (try dsimp only at hSw); go_simp; (try simp only [HDEC.out]); (try simp only [HDEC2.out]); try with_reducible rfl
    try simp only [Act.put, List.setIfInBounds_toArray, List.set_cons_zero, List.set_cons_succ]
    refine wpAnyH_ready (rs := [13]) (by kernel_rfl) (by simp) ?_
    refine cons_q rfl (fun K hK => ?_) AllReadyH.nil
    go_simp
    with_reducible refine (HW.out _).mono ?_; rintro e w2 ⟨rfl, hb2⟩
    refine hK.out _ _ ?_ (fun hHeld => ?_)
    · exact ⟨blk_pfx bk_, bl_⟩
    clear hK K
    try simp only [Act.put, List.setIfInBounds_toArray, List.set_cons_zero, List.set_cons_succ]
    refine take_q (i := 14) (v := ?_) rfl (by kernel_rfl) (by kernel_rfl) (by kernel_rfl) (fun _ _ _ h => h) (Or.inl ⟨by rfl, ?_⟩) (by assumption) ?_
    rotate_left
    · intro w hSw; (try dsimp only at hSw); go_simp; (try simp only [HDEC.out]); (try simp only [HDEC2.out]); try with_reducible rfl
    try simp only [Act.put, List.setIfInBounds_toArray, List.set_cons_zero, List.set_cons_succ]
    refine take_q (i := 15) (v := ?_) rfl (by kernel_rfl) (by kernel_rfl) (by kernel_rfl) (fun _ _ _ h => h) (Or.inl ⟨by rfl, ?_⟩) (by assumption) ?_
    rotate_left
    · intro w hSw; (try dsimp only at hSw); go_simp; (try simp only [HDEC.out]); (try simp only [HDEC2.out]); try with_reducible rfl
    try simp only [Act.put, List.setIfInBounds_toArray, List.set_cons_zero, List.set_cons_succ]
    refine take_q (i := 16) (v := ?_) rfl (by kernel_rfl) (by kernel_rfl) (by kernel_rfl) (fun _ _ _ h => h) (Or.inl ⟨by rfl, ?_⟩) (by assumption) ?_
    rotate_left
    · intro w hSw; (try dsimp only at hSw); go_simp; (try simp only [HDEC.out]); (try simp only [HDEC2.out]); try with_reducible rfl
    try simp only [Act.put, List.setIfInBounds_toArray, List.set_cons_zero, List.set_cons_succ]
    refine take_q (i := 17) (v := undef) rfl (by kernel_rfl) (by kernel_rfl) (by kernel_rfl) (fun _ _ _ h => h) (Or.inr ⟨by rfl, rfl⟩) (by assumption) ?_
    try simp only [Act.put, List.setIfInBounds_toArray, List.set_cons_zero, List.set_cons_succ]
    refine take_q (i := 18) (v := undef) rfl (by kernel_rfl) (by kernel_rfl) (by kernel_rfl) (fun _ _ _ h => h) (Or.inr ⟨by rfl, rfl⟩) (by assumption) ?_
    try simp only [Act.put, List.setIfInBounds_toArray, List.set_cons_zero, List.set_cons_succ]
    refine take_q (i := 19) (v := undef) rfl (by kernel_rfl) (by kernel_rfl) (by kernel_rfl) (fun _ _ _ h => h) (Or.inr ⟨by rfl, rfl⟩) (by assumption) ?_
    try simp only [Act.put, List.setIfInBounds_toArray, List.set_cons_zero, List.set_cons_succ]
    refine take_q (i := 20) (v := undef) rfl (by kernel_rfl) (by kernel_rfl) (by kernel_rfl) (fun _ _ _ h => h) (Or.inr ⟨by rfl, rfl⟩) (by assumption) ?_
    try simp only [Act.put, List.setIfInBounds_toArray, List.set_cons_zero, List.set_cons_succ]
    refine take_q (i := 21) (v := undef) rfl (by kernel_rfl) (by kernel_rfl) (by kernel_rfl) (fun _ _ _ h => h) (Or.inr ⟨by rfl, rfl⟩) (by assumption) ?_
    try simp only [Act.put, List.setIfInBounds_toArray, List.set_cons_zero, List.set_cons_succ]
    refine take_q (i := 22) (v := undef) rfl (by kernel_rfl) (by kernel_rfl) (by kernel_rfl) (fun _ _ _ h => h) (Or.inr ⟨by rfl, rfl⟩) (by assumption) ?_
    try simp only [Act.put, List.setIfInBounds_toArray, List.set_cons_zero, List.set_cons_succ]
    refine take_q (i := 23) (v := undef) rfl (by kernel_rfl) (by kernel_rfl) (by kernel_rfl) (fun _ _ _ h => h) (Or.inr ⟨by rfl, rfl⟩) (by assumption) ?_
    try simp only [Act.put, List.setIfInBounds_toArray, List.set_cons_zero, List.set_cons_succ]
    refine take_q (i := 24) (v := undef) rfl (by kernel_rfl) (by kernel_rfl) (by kernel_rfl) (fun _ _ _ h => h) (Or.inr ⟨by rfl, rfl⟩) (by assumption) ?_
    try simp only [Act.put, List.setIfInBounds_toArray, List.set_cons_zero, List.set_cons_succ]
    refine take_q (i := 25) (v := ?_) rfl (by kernel_rfl) (by kernel_rfl) (by kernel_rfl) (fun _ _ _ h => h) (Or.inl ⟨by rfl, ?_⟩) (by assumption) ?_
    rotate_left
    · intro w hSw; (try dsimp only at hSw); go_simp; (try simp only [HDEC.out]); (try simp only [HDEC2.out]); try with_reducible rfl
    try simp only [Act.put, List.setIfInBounds_toArray, List.set_cons_zero, List.set_cons_succ]
    refine take_q (i := 26) (v := ?_) rfl (by kernel_rfl) (by kernel_rfl) (by kernel_rfl) (fun _ _ _ h => h) (Or.inl ⟨by rfl, ?_⟩) (by assumption) ?_
    rotate_left
    · intro w hSw; (try dsimp only at hSw); go_simp; (try simp only [HDEC.out]); (try simp only [HDEC2.out]); try with_reducible rfl
    try simp only [Act.put, List.setIfInBounds_toArray, List.set_cons_zero, List.set_cons_succ]
    refine wpAnyH_done (by kernel_rfl) ?_ _
    go_wp2_with fail
    go_ret
    exact ⟨rfl, hHeld.2⟩
  · rw [hr] at HR
    rw [hp]
    have HF := Lib.hid (fun w => free_c v n b w h0 h1)
    have HN := Lib.hid (fun w => andn_c n (2 ^ fr v b - 1) w)
    rw [and_ones] at HN
    have hx : n % 2 ^ fr v b < 340282366920938463463374607431768211456 := Nat.lt_of_le_of_lt (Nat.mod_le _ _) hn
    clear hp hr
    unfold PfxV PfxC at *
    unfold numV at *
    simp only [AddrV_eq, AddrC] at HR HW
    generalize 2 ^ fr v b - 1 = F at *
    generalize n % 2 ^ fr v b = X at *
    generalize widthN v = wd at *
    have hc : (X = 0) ∨ ((hi X == 0 && lo X == 0) = false ∧ ¬ X = 0) := by
      by_cases h : X = 0
      · exact .inl h
      · refine .inr ⟨?_, h⟩
        have h2 := num_hi_lo hx
        rw [Bool.and_eq_false_iff]
        by_cases e : hi X = 0
        · right
          have : lo X ≠ 0 := fun e2 => by rw [e, e2] at h2; exact h h2.symm
          simpa using this
        · left; simpa using e
    have HDEC := Lib.hid (show decide (0 ≤ b) = true by simp; omega)
    have HDEC2 := Lib.hid (show decide (b ≤ (wd : Int)) = true by simp; omega)
    clear h0 h1
    obtain ⟨ok, hok⟩ : ∃ ok : Bool, ok = decide (X = 0) := ⟨_, rfl⟩
    have hq : (hi X == 0 && lo X == 0) = ok := by
      rcases hc with rfl | ⟨hc, hX0⟩
      · rw [hok]; rfl
      · rw [hok, hc]; simp [hX0]
    rw [← hok]
    clear hc hok
    generalize hi X = xh at *
    generalize lo X = xl at *
    have h3 : (xh = 0 ∧ xl = 0 ∧ ok = true) ∨ (xh = 0 ∧ ¬ xl = 0 ∧ ok = false) ∨ (¬ xh = 0 ∧ ok = false) := by
      rw [← hq]
      by_cases e1 : xh = 0
      · by_cases e2 : xl = 0
        · exact .inl ⟨e1, e2, by simp [e1, e2]⟩
        · exact .inr (.inl ⟨e1, e2, by simp [e2]⟩)
      · exact .inr (.inr ⟨e1, by simp [e1]⟩)
    clear hq
    rcases h3 with ⟨rfl, rfl, rfl⟩ | ⟨rfl, h3, rfl⟩ | ⟨h3, rfl⟩
    · go_enter Tryd.func54, Tryd.ntmps54
      go_wp2_with fail
      have hA : Blk (w.alloc (Obj.cells #[.bool v, .int .u64 (hi n), .int .u64 (lo n), .int .i64 b] 43)) (w.heap.size) 43 (PfxC v n b) := (Blk.new' _ _ _ _ (by simp) : Blk (w.alloc (Obj.cells #[.bool v, .int .u64 (hi n), .int .u64 (lo n), .int .i64 b] 43)) (w.heap.size) 43 (PfxC v n b))
      have hbel : Below w.heap.size w (w.alloc (Obj.cells #[.bool v, .int .u64 (hi n), .int .u64 (lo n), .int .i64 b] 43)) := bl_
      have hsz : (w.alloc (Obj.cells #[.bool v, .int .u64 (hi n), .int .u64 (lo n), .int .i64 b] 43)).heap.size = w.heap.size + 1 := by simp
      generalize w.alloc (Obj.cells #[.bool v, .int .u64 (hi n), .int .u64 (lo n), .int .i64 b] 43) = w0 at *
      have hbel0 : Below w.heap.size w w0.drew := bl_
      refine wp_region_held_drew (S := fun w' => (w'.cell? ⟨w.heap.size, 0, none⟩ = some (.bool v) ∧ w'.cell? ⟨w.heap.size, 1, none⟩ = some (.int .u64 (hi n)) ∧ w'.cell? ⟨w.heap.size, 2, none⟩ = some (.int .u64 (lo n)) ∧ w'.cell? ⟨w.heap.size, 3, none⟩ = some (.int .i64 b) ∧ Blk w' w.heap.size 43 (PfxC v n b)) ∧ Below w.heap.size w w') (by kernel_rfl) ?_ (fun hHeld => ?_)
      · exact ⟨blk_pfx bk_, bl_⟩
      refine take_q (i := 0) (v := ?_) rfl (by kernel_rfl) (by kernel_rfl) (by kernel_rfl) (fun _ _ _ h => h) (Or.inl ⟨by rfl, ?_⟩) (by assumption) ?_
      rotate_left
      · intro w hSw; (try dsimp only at hSw); go_simp; (try simp only [HDEC.out]); (try simp only [HDEC2.out]); try with_reducible rfl
      try simp only [Act.put, List.setIfInBounds_toArray, List.set_cons_zero, List.set_cons_succ]
      refine take_q (i := 1) (v := ?_) rfl (by kernel_rfl) (by kernel_rfl) (by kernel_rfl) (fun _ _ _ h => h) (Or.inl ⟨by rfl, ?_⟩) (by assumption) ?_
      rotate_left
      · intro w hSw; (try dsimp only at hSw); go_simp; (try simp only [HDEC.out]); (try simp only [HDEC2.out]); try with_reducible rfl
      try simp only [Act.put, List.setIfInBounds_toArray, List.set_cons_zero, List.set_cons_succ]
      refine wpAnyH_ready (rs := [2]) (by kernel_rfl) (by simp) ?_
      refine cons_q rfl (fun K hK => ?_) AllReadyH.nil
      go_simp
      with_reducible refine (HR.out _).mono ?_; rintro e w1 ⟨rfl, hb1⟩
      refine hK.out _ _ ?_ (fun hHeld => ?_)
      · exact ⟨blk_pfx bk_, bl_⟩
      clear hK K
      try simp only [Act.put, List.setIfInBounds_toArray, List.set_cons_zero, List.set_cons_succ]
      refine take_q (i := 3) (v := ?_) rfl (by kernel_rfl) (by kernel_rfl) (by kernel_rfl) (fun _ _ _ h => h) (Or.inl ⟨by rfl, ?_⟩) (by assumption) ?_
      rotate_left
      · intro w hSw; (try dsimp only at hSw); go_simp; (try simp only [HDEC.out]); (try simp only [HDEC2.out]); try with_reducible rfl
      try simp only [Act.put, List.setIfInBounds_toArray, List.set_cons_zero, List.set_cons_succ]
      refine take_q (i := 4) (v := ?_) rfl (by kernel_rfl) (by kernel_rfl) (by kernel_rfl) (fun _ _ _ h => h) (Or.inl ⟨by rfl, ?_⟩) (by assumption) ?_
      rotate_left
      · intro w hSw; (try dsimp only at hSw); go_simp; (try simp only [HDEC.out]); (try simp only [HDEC2.out]); try with_reducible rfl
      try simp only [Act.put, List.setIfInBounds_toArray, List.set_cons_zero, List.set_cons_succ]
      refine take_q (i := 5) (v := ?_) rfl (by kernel_rfl) (by kernel_rfl) (by kernel_rfl) (fun _ _ _ h => h) (Or.inl ⟨by rfl, ?_⟩) (by assumption) ?_
      rotate_left
      · intro w hSw; (try dsimp only at hSw); go_simp; (try simp only [HDEC.out]); (try simp only [HDEC2.out]); try with_reducible rfl
      try simp only [Act.put, List.setIfInBounds_toArray, List.set_cons_zero, List.set_cons_succ]
      refine take_q (i := 6) (v := ?_) rfl (by kernel_rfl) (by kernel_rfl) (by kernel_rfl) (fun _ _ _ h => h) (Or.inl ⟨by rfl, ?_⟩) (by assumption) ?_
      rotate_left
      · intro w hSw; (try dsimp only at hSw); go_simp; (try simp only [HDEC.out]); (try simp only [HDEC2.out]); try with_reducible rfl
      try simp only [Act.put, List.setIfInBounds_toArray, List.set_cons_zero, List.set_cons_succ]
      refine take_q (i := 7) (v := ?_) rfl (by kernel_rfl) (by kernel_rfl) (by kernel_rfl) (fun _ _ _ h => h) (Or.inl ⟨by rfl, ?_⟩) (by assumption) ?_
      rotate_left
      · intro w hSw; (try dsimp only at hSw); go_simp; (try simp only [HDEC.out]); (try simp only [HDEC2.out]); try with_reducible rfl
      try simp only [Act.put, List.setIfInBounds_toArray, List.set_cons_zero, List.set_cons_succ]
      refine take_q (i := 8) (v := ?_) rfl (by kernel_rfl) (by kernel_rfl) (by kernel_rfl) (fun _ _ _ h => h) (Or.inl ⟨by rfl, ?_⟩) (by assumption) ?_
      rotate_left
      · intro w hSw; (try dsimp only at hSw); go_simp; (try simp only [HDEC.out]); (try simp only [HDEC2.out]); try with_reducible rfl
      try simp only [Act.put, List.setIfInBounds_toArray, List.set_cons_zero, List.set_cons_succ]
      refine take_q (i := 9) (v := ?_) rfl (by kernel_rfl) (by kernel_rfl) (by kernel_rfl) (fun _ _ _ h => h) (Or.inl ⟨by rfl, ?_⟩) (by assumption) ?_
      rotate_left
      · intro w hSw; (try dsimp only at hSw); go_simp; (try simp only [HDEC.out]); (try simp only [HDEC2.out]); try with_reducible rfl
      try simp only [Act.put, List.setIfInBounds_toArray, List.set_cons_zero, List.set_cons_succ]
      refine take_q (i := 10) (v := ?_) rfl (by kernel_rfl) (by kernel_rfl) (by kernel_rfl) (fun _ _ _ h => h) (Or.inl ⟨by rfl, ?_⟩) (by assumption) ?_
      rotate_left
      · intro w hSw; (try dsimp only at hSw); go_simp; (try simp only [HDEC.out]); (try simp only [HDEC2.out]); try with_reducible rfl
      try simp only [Act.put, List.setIfInBounds_toArray, List.set_cons_zero, List.set_cons_succ]
      refine take_q (i := 11) (v := ?_) rfl (by kernel_rfl) (by kernel_rfl) (by kernel_rfl) (fun _ _ _ h => h) (Or.inl ⟨by rfl, ?_⟩) (by assumption) ?_
      rotate_left
      · intro w hSw; (try dsimp only at hSw); go_simp; (try simp only [HDEC.out]); (try simp only [HDEC2.out]); try with_reducible rfl
      try simp only [Act.put, List.setIfInBounds_toArray, List.set_cons_zero, List.set_cons_succ]
      refine take_q (i := 12) (v := ?_) rfl (by kernel_rfl) (by kernel_rfl) (by kernel_rfl) (fun _ _ _ h => h) (Or.inl ⟨by rfl, ?_⟩) (by assumption) ?_
      rotate_left
      · intro w hSw; (try dsimp only at hSw); go_simp; (try simp only [HDEC.out]); (try simp only [HDEC2.out]); try with_reducible rfl
      try simp only [Act.put, List.setIfInBounds_toArray, List.set_cons_zero, List.set_cons_succ]
      refine wpAnyH_ready (rs := [13]) (by kernel_rfl) (by simp) ?_
      refine cons_q rfl (fun K hK => ?_) AllReadyH.nil
      go_simp
      with_reducible refine (HW.out _).mono ?_; rintro e w2 ⟨rfl, hb2⟩
      refine hK.out _ _ ?_ (fun hHeld => ?_)
      · exact ⟨blk_pfx bk_, bl_⟩
      clear hK K
      try simp only [Act.put, List.setIfInBounds_toArray, List.set_cons_zero, List.set_cons_succ]
      refine take_q (i := 14) (v := ?_) rfl (by kernel_rfl) (by kernel_rfl) (by kernel_rfl) (fun _ _ _ h => h) (Or.inl ⟨by rfl, ?_⟩) (by assumption) ?_
      rotate_left
      · intro w hSw; (try dsimp only at hSw); go_simp; (try simp only [HDEC.out]); (try simp only [HDEC2.out]); try with_reducible rfl
      try simp only [Act.put, List.setIfInBounds_toArray, List.set_cons_zero, List.set_cons_succ]
      refine take_q (i := 15) (v := ?_) rfl (by kernel_rfl) (by kernel_rfl) (by kernel_rfl) (fun _ _ _ h => h) (Or.inl ⟨by rfl, ?_⟩) (by assumption) ?_
      rotate_left
      · intro w hSw; (try dsimp only at hSw); go_simp; (try simp only [HDEC.out]); (try simp only [HDEC2.out]); try with_reducible rfl
      try simp only [Act.put, List.setIfInBounds_toArray, List.set_cons_zero, List.set_cons_succ]
      refine take_q (i := 16) (v := ?_) rfl (by kernel_rfl) (by kernel_rfl) (by kernel_rfl) (fun _ _ _ h => h) (Or.inl ⟨by rfl, ?_⟩) (by assumption) ?_
      rotate_left
      · intro w hSw; (try dsimp only at hSw); go_simp; (try simp only [HDEC.out]); (try simp only [HDEC2.out]); try with_reducible rfl
      try simp only [Act.put, List.setIfInBounds_toArray, List.set_cons_zero, List.set_cons_succ]
      refine take_q (i := 17) (v := ?_) rfl (by kernel_rfl) (by kernel_rfl) (by kernel_rfl) (fun _ _ _ h => h) (Or.inl ⟨by rfl, ?_⟩) (by assumption) ?_
      rotate_left
      · intro w hSw; (try dsimp only at hSw); go_simp; (try simp only [HDEC.out]); (try simp only [HDEC2.out]); try with_reducible rfl
      try simp only [Act.put, List.setIfInBounds_toArray, List.set_cons_zero, List.set_cons_succ]
      refine take_q (i := 18) (v := ?_) rfl (by kernel_rfl) (by kernel_rfl) (by kernel_rfl) (fun _ _ _ h => h) (Or.inl ⟨by rfl, ?_⟩) (by assumption) ?_
      rotate_left
      · intro w hSw; (try dsimp only at hSw); go_simp; (try simp only [HDEC.out]); (try simp only [HDEC2.out]); try with_reducible rfl
      try simp only [Act.put, List.setIfInBounds_toArray, List.set_cons_zero, List.set_cons_succ]
      refine take_q (i := 19) (v := ?_) rfl (by kernel_rfl) (by kernel_rfl) (by kernel_rfl) (fun _ _ _ h => h) (Or.inl ⟨by rfl, ?_⟩) (by assumption) ?_
      rotate_left
      · intro w hSw; (try dsimp only at hSw); go_simp; (try simp only [HDEC.out]); (try simp only [HDEC2.out]); try with_reducible rfl
      try simp only [Act.put, List.setIfInBounds_toArray, List.set_cons_zero, List.set_cons_succ]
      refine take_q (i := 20) (v := ?_) rfl (by kernel_rfl) (by kernel_rfl) (by kernel_rfl) (fun _ _ _ h => h) (Or.inl ⟨by rfl, ?_⟩) (by assumption) ?_
      rotate_left
      · intro w hSw; (try dsimp only at hSw); go_simp; (try simp only [HDEC.out]); (try simp only [HDEC2.out]); try with_reducible rfl
      try simp only [Act.put, List.setIfInBounds_toArray, List.set_cons_zero, List.set_cons_succ]
      refine take_q (i := 23) (v := ?_) rfl (by kernel_rfl) (by kernel_rfl) (by kernel_rfl) (fun _ _ _ h => h) (Or.inl ⟨by rfl, ?_⟩) (by assumption) ?_
      rotate_left
      · intro w hSw; (try dsimp only at hSw); go_simp; (try simp only [HDEC.out]); (try simp only [HDEC2.out]); try with_reducible rfl
      try simp only [Act.put, List.setIfInBounds_toArray, List.set_cons_zero, List.set_cons_succ]
      refine wpAnyH_ready (rs := [21]) (by kernel_rfl) (by simp) ?_
      refine cons_q rfl (fun K hK => ?_) AllReadyH.nil
      go_simp
      with_reducible refine (HF.out _).mono ?_; rintro e w3 ⟨rfl, hb3⟩
      refine hK.out _ _ ?_ (fun hHeld => ?_)
      · exact ⟨blk_pfx bk_, bl_⟩
      clear hK K
      try simp only [Act.put, List.setIfInBounds_toArray, List.set_cons_zero, List.set_cons_succ]
      refine wpAnyH_ready (rs := [22]) (by kernel_rfl) (by simp) ?_
      refine cons_q rfl (fun K hK => ?_) AllReadyH.nil
      go_simp
      with_reducible refine (HN.out _).mono ?_; rintro e w4 ⟨rfl, hb4⟩
      refine hK.out _ _ ?_ (fun hHeld => ?_)
      · exact ⟨blk_pfx bk_, bl_⟩
      clear hK K
      try simp only [Act.put, List.setIfInBounds_toArray, List.set_cons_zero, List.set_cons_succ]
      refine take_q (i := 24) (v := ?_) rfl (by kernel_rfl) (by kernel_rfl) (by kernel_rfl) (fun _ _ _ h => h) (Or.inl ⟨by rfl, ?_⟩) (by assumption) ?_
      rotate_left
      · intro w hSw; (try dsimp only at hSw); go_simp; (try simp only [HDEC.out]); (try simp only [HDEC2.out]); try with_reducible rfl
      try simp only [Act.put, List.setIfInBounds_toArray, List.set_cons_zero, List.set_cons_succ]
      refine take_q (i := 25) (v := ?_) rfl (by kernel_rfl) (by kernel_rfl) (by kernel_rfl) (fun _ _ _ h => h) (Or.inl ⟨by rfl, ?_⟩) (by assumption) ?_
      rotate_left
      · intro w hSw; (try dsimp only at hSw); go_simp; (try simp only [HDEC.out]); (try simp only [HDEC2.out]); try with_reducible rfl
      try simp only [Act.put, List.setIfInBounds_toArray, List.set_cons_zero, List.set_cons_succ]
      refine take_q (i := 26) (v := ?_) rfl (by kernel_rfl) (by kernel_rfl) (by kernel_rfl) (fun _ _ _ h => h) (Or.inl ⟨by rfl, ?_⟩) (by assumption) ?_
      rotate_left
      · intro w hSw; (try dsimp only at hSw); go_simp; (try simp only [HDEC.out]); (try simp only [HDEC2.out]); try with_reducible rfl
      try simp only [Act.put, List.setIfInBounds_toArray, List.set_cons_zero, List.set_cons_succ]
      refine wpAnyH_done (by kernel_rfl) ?_ _
      go_wp2_with fail
      go_ret
      exact ⟨rfl, hHeld.2⟩
    · go_enter Tryd.func54, Tryd.ntmps54
      go_wp2_with fail
      have hA : Blk (w.alloc (Obj.cells #[.bool v, .int .u64 (hi n), .int .u64 (lo n), .int .i64 b] 43)) (w.heap.size) 43 (PfxC v n b) := (Blk.new' _ _ _ _ (by simp) : Blk (w.alloc (Obj.cells #[.bool v, .int .u64 (hi n), .int .u64 (lo n), .int .i64 b] 43)) (w.heap.size) 43 (PfxC v n b))
      have hbel : Below w.heap.size w (w.alloc (Obj.cells #[.bool v, .int .u64 (hi n), .int .u64 (lo n), .int .i64 b] 43)) := bl_
      have hsz : (w.alloc (Obj.cells #[.bool v, .int .u64 (hi n), .int .u64 (lo n), .int .i64 b] 43)).heap.size = w.heap.size + 1 := by simp
      generalize w.alloc (Obj.cells #[.bool v, .int .u64 (hi n), .int .u64 (lo n), .int .i64 b] 43) = w0 at *
      have hbel0 : Below w.heap.size w w0.drew := bl_
      refine wp_region_held_drew (S := fun w' => (w'.cell? ⟨w.heap.size, 0, none⟩ = some (.bool v) ∧ w'.cell? ⟨w.heap.size, 1, none⟩ = some (.int .u64 (hi n)) ∧ w'.cell? ⟨w.heap.size, 2, none⟩ = some (.int .u64 (lo n)) ∧ w'.cell? ⟨w.heap.size, 3, none⟩ = some (.int .i64 b) ∧ Blk w' w.heap.size 43 (PfxC v n b)) ∧ Below w.heap.size w w') (by kernel_rfl) ?_ (fun hHeld => ?_)
      · exact ⟨blk_pfx bk_, bl_⟩
      refine take_q (i := 0) (v := ?_) rfl (by kernel_rfl) (by kernel_rfl) (by kernel_rfl) (fun _ _ _ h => h) (Or.inl ⟨by rfl, ?_⟩) (by assumption) ?_
      rotate_left
      · intro w hSw; (try dsimp only at hSw); go_simp; (try simp only [HDEC.out]); (try simp only [HDEC2.out]); try with_reducible rfl
      try simp only [Act.put, List.setIfInBounds_toArray, List.set_cons_zero, List.set_cons_succ]
      refine take_q (i := 1) (v := ?_) rfl (by kernel_rfl) (by kernel_rfl) (by kernel_rfl) (fun _ _ _ h => h) (Or.inl ⟨by rfl, ?_⟩) (by assumption) ?_
      rotate_left
      · intro w hSw; (try dsimp only at hSw); go_simp; (try simp only [HDEC.out]); (try simp only [HDEC2.out]); try with_reducible rfl
      try simp only [Act.put, List.setIfInBounds_toArray, List.set_cons_zero, List.set_cons_succ]
      refine wpAnyH_ready (rs := [2]) (by kernel_rfl) (by simp) ?_
      refine cons_q rfl (fun K hK => ?_) AllReadyH.nil
      go_simp
      with_reducible refine (HR.out _).mono ?_; rintro e w1 ⟨rfl, hb1⟩
      refine hK.out _ _ ?_ (fun hHeld => ?_)
      · exact ⟨blk_pfx bk_, bl_⟩
      clear hK K
      try simp only [Act.put, List.setIfInBounds_toArray, List.set_cons_zero, List.set_cons_succ]
      refine take_q (i := 3) (v := ?_) rfl (by kernel_rfl) (by kernel_rfl) (by kernel_rfl) (fun _ _ _ h => h) (Or.inl ⟨by rfl, ?_⟩) (by assumption) ?_
      rotate_left
      · intro w hSw; (try dsimp only at hSw); go_simp; (try simp only [HDEC.out]); (try simp only [HDEC2.out]); try with_reducible rfl
      try simp only [Act.put, List.setIfInBounds_toArray, List.set_cons_zero, List.set_cons_succ]
      refine take_q (i := 4) (v := ?_) rfl (by kernel_rfl) (by kernel_rfl) (by kernel_rfl) (fun _ _ _ h => h) (Or.inl ⟨by rfl, ?_⟩) (by assumption) ?_
      rotate_left
      · intro w hSw; (try dsimp only at hSw); go_simp; (try simp only [HDEC.out]); (try simp only [HDEC2.out]); try with_reducible rfl
      try simp only [Act.put, List.setIfInBounds_toArray, List.set_cons_zero, List.set_cons_succ]
      refine take_q (i := 5) (v := ?_) rfl (by kernel_rfl) (by kernel_rfl) (by kernel_rfl) (fun _ _ _ h => h) (Or.inl ⟨by rfl, ?_⟩) (by assumption) ?_
      rotate_left
      · intro w hSw; (try dsimp only at hSw); go_simp; (try simp only [HDEC.out]); (try simp only [HDEC2.out]); try with_reducible rfl
      try simp only [Act.put, List.setIfInBounds_toArray, List.set_cons_zero, List.set_cons_succ]
      refine take_q (i := 6) (v := ?_) rfl (by kernel_rfl) (by kernel_rfl) (by kernel_rfl) (fun _ _ _ h => h) (Or.inl ⟨by rfl, ?_⟩) (by assumption) ?_
      rotate_left
      · intro w hSw; (try dsimp only at hSw); go_simp; (try simp only [HDEC.out]); (try simp only [HDEC2.out]); try with_reducible rfl
      try simp only [Act.put, List.setIfInBounds_toArray, List.set_cons_zero, List.set_cons_succ]
      refine take_q (i := 7) (v := ?_) rfl (by kernel_rfl) (by kernel_rfl) (by kernel_rfl) (fun _ _ _ h => h) (Or.inl ⟨by rfl, ?_⟩) (by assumption) ?_
      rotate_left
      · intro w hSw; (try dsimp only at hSw); go_simp; (try simp only [HDEC.out]); (try simp only [HDEC2.out]); try with_reducible rfl
      try simp only [Act.put, List.setIfInBounds_toArray, List.set_cons_zero, List.set_cons_succ]
      refine take_q (i := 8) (v := ?_) rfl (by kernel_rfl) (by kernel_rfl) (by kernel_rfl) (fun _ _ _ h => h) (Or.inl ⟨by rfl, ?_⟩) (by assumption) ?_
      rotate_left
      · intro w hSw; (try dsimp only at hSw); go_simp; (try simp only [HDEC.out]); (try simp only [HDEC2.out]); try with_reducible rfl
      try simp only [Act.put, List.setIfInBounds_toArray, List.set_cons_zero, List.set_cons_succ]
      refine take_q (i := 9) (v := ?_) rfl (by kernel_rfl) (by kernel_rfl) (by kernel_rfl) (fun _ _ _ h => h) (Or.inl ⟨by rfl, ?_⟩) (by assumption) ?_
      rotate_left
      · intro w hSw; (try dsimp only at hSw); go_simp; (try simp only [HDEC.out]); (try simp only [HDEC2.out]); try with_reducible rfl
      try simp only [Act.put, List.setIfInBounds_toArray, List.set_cons_zero, List.set_cons_succ]
      refine take_q (i := 10) (v := ?_) rfl (by kernel_rfl) (by kernel_rfl) (by kernel_rfl) (fun _ _ _ h => h) (Or.inl ⟨by rfl, ?_⟩) (by assumption) ?_
      rotate_left
      · intro w hSw; (try dsimp only at hSw); go_simp; (try simp only [HDEC.out]); (try simp only [HDEC2.out]); try with_reducible rfl
      try simp only [Act.put, List.setIfInBounds_toArray, List.set_cons_zero, List.set_cons_succ]
      refine take_q (i := 11) (v := ?_) rfl (by kernel_rfl) (by kernel_rfl) (by kernel_rfl) (fun _ _ _ h => h) (Or.inl ⟨by rfl, ?_⟩) (by assumption) ?_
      rotate_left
      · intro w hSw; (try dsimp only at hSw); go_simp; (try simp only [HDEC.out]); (try simp only [HDEC2.out]); try with_reducible rfl
      try simp only [Act.put, List.setIfInBounds_toArray, List.set_cons_zero, List.set_cons_succ]
      refine take_q (i := 12) (v := ?_) rfl (by kernel_rfl) (by kernel_rfl) (by kernel_rfl) (fun _ _ _ h => h) (Or.inl ⟨by rfl, ?_⟩) (by assumption) ?_
      rotate_left
      · intro w hSw; (try dsimp only at hSw); go_simp; (try simp only [HDEC.out]); (try simp only [HDEC2.out]); try with_reducible rfl
      try simp only [Act.put, List.setIfInBounds_toArray, List.set_cons_zero, List.set_cons_succ]
      refine wpAnyH_ready (rs := [13]) (by kernel_rfl) (by simp) ?_
      refine cons_q rfl (fun K hK => ?_) AllReadyH.nil
      go_simp
      with_reducible refine (HW.out _).mono ?_; rintro e w2 ⟨rfl, hb2⟩
      refine hK.out _ _ ?_ (fun hHeld => ?_)
      · exact ⟨blk_pfx bk_, bl_⟩
      clear hK K
      try simp only [Act.put, List.setIfInBounds_toArray, List.set_cons_zero, List.set_cons_succ]
      refine take_q (i := 14) (v := ?_) rfl (by kernel_rfl) (by kernel_rfl) (by kernel_rfl) (fun _ _ _ h => h) (Or.inl ⟨by rfl, ?_⟩) (by assumption) ?_
      rotate_left
      · intro w hSw; (try dsimp only at hSw); go_simp; (try simp only [HDEC.out]); (try simp only [HDEC2.out]); try with_reducible rfl
      try simp only [Act.put, List.setIfInBounds_toArray, List.set_cons_zero, List.set_cons_succ]
      refine take_q (i := 15) (v := ?_) rfl (by kernel_rfl) (by kernel_rfl) (by kernel_rfl) (fun _ _ _ h => h) (Or.inl ⟨by rfl, ?_⟩) (by assumption) ?_
      rotate_left
      · intro w hSw; (try dsimp only at hSw); go_simp; (try simp only [HDEC.out]); (try simp only [HDEC2.out]); try with_reducible rfl
      try simp only [Act.put, List.setIfInBounds_toArray, List.set_cons_zero, List.set_cons_succ]
      refine take_q (i := 16) (v := ?_) rfl (by kernel_rfl) (by kernel_rfl) (by kernel_rfl) (fun _ _ _ h => h) (Or.inl ⟨by rfl, ?_⟩) (by assumption) ?_
      rotate_left
      · intro w hSw; (try dsimp only at hSw); go_simp; (try simp only [HDEC.out]); (try simp only [HDEC2.out]); try with_reducible rfl
      try simp only [Act.put, List.setIfInBounds_toArray, List.set_cons_zero, List.set_cons_succ]
      refine take_q (i := 17) (v := ?_) rfl (by kernel_rfl) (by kernel_rfl) (by kernel_rfl) (fun _ _ _ h => h) (Or.inl ⟨by rfl, ?_⟩) (by assumption) ?_
      rotate_left
      · intro w hSw; (try dsimp only at hSw); go_simp; (try simp only [HDEC.out]); (try simp only [HDEC2.out]); try with_reducible rfl
      try simp only [Act.put, List.setIfInBounds_toArray, List.set_cons_zero, List.set_cons_succ]
      refine take_q (i := 18) (v := ?_) rfl (by kernel_rfl) (by kernel_rfl) (by kernel_rfl) (fun _ _ _ h => h) (Or.inl ⟨by rfl, ?_⟩) (by assumption) ?_
      rotate_left
      · intro w hSw; (try dsimp only at hSw); go_simp; (try simp only [HDEC.out]); (try simp only [HDEC2.out]); try with_reducible rfl
      try simp only [Act.put, List.setIfInBounds_toArray, List.set_cons_zero, List.set_cons_succ]
      refine take_q (i := 19) (v := ?_) rfl (by kernel_rfl) (by kernel_rfl) (by kernel_rfl) (fun _ _ _ h => h) (Or.inl ⟨by rfl, ?_⟩) (by assumption) ?_
      rotate_left
      · intro w hSw; (try dsimp only at hSw); go_simp; (try simp only [HDEC.out]); (try simp only [HDEC2.out]); try with_reducible rfl
      try simp only [Act.put, List.setIfInBounds_toArray, List.set_cons_zero, List.set_cons_succ]
      refine take_q (i := 20) (v := ?_) rfl (by kernel_rfl) (by kernel_rfl) (by kernel_rfl) (fun _ _ _ h => h) (Or.inl ⟨by rfl, ?_⟩) (by assumption) ?_
      rotate_left
      · intro w hSw; (try dsimp only at hSw); go_simp; (try simp only [HDEC.out]); (try simp only [HDEC2.out]); try with_reducible rfl
      try simp only [Act.put, List.setIfInBounds_toArray, List.set_cons_zero, List.set_cons_succ]
      refine take_q (i := 23) (v := ?_) rfl (by kernel_rfl) (by kernel_rfl) (by kernel_rfl) (fun _ _ _ h => h) (Or.inl ⟨by rfl, ?_⟩) (by assumption) ?_
      rotate_left
      · intro w hSw; (try dsimp only at hSw); go_simp; (try simp only [HDEC.out]); (try simp only [HDEC2.out]); try with_reducible rfl
      try simp only [Act.put, List.setIfInBounds_toArray, List.set_cons_zero, List.set_cons_succ]
      refine wpAnyH_ready (rs := [21]) (by kernel_rfl) (by simp) ?_
      refine cons_q rfl (fun K hK => ?_) AllReadyH.nil
      go_simp
      with_reducible refine (HF.out _).mono ?_; rintro e w3 ⟨rfl, hb3⟩
      refine hK.out _ _ ?_ (fun hHeld => ?_)
      · exact ⟨blk_pfx bk_, bl_⟩
      clear hK K
      try simp only [Act.put, List.setIfInBounds_toArray, List.set_cons_zero, List.set_cons_succ]
      refine wpAnyH_ready (rs := [22]) (by kernel_rfl) (by simp) ?_
      refine cons_q rfl (fun K hK => ?_) AllReadyH.nil
      go_simp
      with_reducible refine (HN.out _).mono ?_; rintro e w4 ⟨rfl, hb4⟩
      refine hK.out _ _ ?_ (fun hHeld => ?_)
      · exact ⟨blk_pfx bk_, bl_⟩
      clear hK K
      try simp only [Act.put, List.setIfInBounds_toArray, List.set_cons_zero, List.set_cons_succ]
      refine take_q (i := 24) (v := ?_) rfl (by kernel_rfl) (by kernel_rfl) (by kernel_rfl) (fun _ _ _ h => h) (Or.inl ⟨by rfl, ?_⟩) (by assumption) ?_
      rotate_left
      · intro w hSw; (try dsimp only at hSw); go_simp; (try simp only [HDEC.out]); (try simp only [HDEC2.out]); try with_reducible rfl
      try simp only [Act.put, List.setIfInBounds_toArray, List.set_cons_zero, List.set_cons_succ]
      refine take_q (i := 25) (v := ?_) rfl (by kernel_rfl) (by kernel_rfl) (by kernel_rfl) (fun _ _ _ h => h) (Or.inl ⟨by rfl, ?_⟩) (by assumption) ?_
      rotate_left
      · intro w hSw; (try dsimp only at hSw); go_simp; (try simp only [HDEC.out]); (try simp only [HDEC2.out]); try with_reducible rfl
      try simp only [Act.put, List.setIfInBounds_toArray, List.set_cons_zero, List.set_cons_succ]
      refine take_q (i := 26) (v := ?_) rfl (by kernel_rfl) (by kernel_rfl) (by kernel_rfl) (fun _ _ _ h => h) (Or.inl ⟨by rfl, ?_⟩) (by assumption) ?_
      rotate_left
      · intro w hSw; (try dsimp only at hSw); go_simp; (try simp only [HDEC.out]); (try simp only [HDEC2.out]); try with_reducible rfl
      try simp only [Act.put, List.setIfInBounds_toArray, List.set_cons_zero, List.set_cons_succ]
      refine wpAnyH_done (by kernel_rfl) ?_ _
      go_wp2_with fail
      go_ret
      exact ⟨rfl, hHeld.2⟩
    · go_enter Tryd.func54, Tryd.ntmps54
      go_wp2_with fail
      have hA : Blk (w.alloc (Obj.cells #[.bool v, .int .u64 (hi n), .int .u64 (lo n), .int .i64 b] 43)) (w.heap.size) 43 (PfxC v n b) := (Blk.new' _ _ _ _ (by simp) : Blk (w.alloc (Obj.cells #[.bool v, .int .u64 (hi n), .int .u64 (lo n), .int .i64 b] 43)) (w.heap.size) 43 (PfxC v n b))
      have hbel : Below w.heap.size w (w.alloc (Obj.cells #[.bool v, .int .u64 (hi n), .int .u64 (lo n), .int .i64 b] 43)) := bl_
      have hsz : (w.alloc (Obj.cells #[.bool v, .int .u64 (hi n), .int .u64 (lo n), .int .i64 b] 43)).heap.size = w.heap.size + 1 := by simp
      generalize w.alloc (Obj.cells #[.bool v, .int .u64 (hi n), .int .u64 (lo n), .int .i64 b] 43) = w0 at *
      have hbel0 : Below w.heap.size w w0.drew := bl_
      refine wp_region_held_drew (S := fun w' => (w'.cell? ⟨w.heap.size, 0, none⟩ = some (.bool v) ∧ w'.cell? ⟨w.heap.size, 1, none⟩ = some (.int .u64 (hi n)) ∧ w'.cell? ⟨w.heap.size, 2, none⟩ = some (.int .u64 (lo n)) ∧ w'.cell? ⟨w.heap.size, 3, none⟩ = some (.int .i64 b) ∧ Blk w' w.heap.size 43 (PfxC v n b)) ∧ Below w.heap.size w w') (by kernel_rfl) ?_ (fun hHeld => ?_)
      · exact ⟨blk_pfx bk_, bl_⟩
      refine take_q (i := 0) (v := ?_) rfl (by kernel_rfl) (by kernel_rfl) (by kernel_rfl) (fun _ _ _ h => h) (Or.inl ⟨by rfl, ?_⟩) (by assumption) ?_
      rotate_left
      · intro w hSw; (try dsimp only at hSw); go_simp; (try simp only [HDEC.out]); (try simp only [HDEC2.out]); try with_reducible rfl
      try simp only [Act.put, List.setIfInBounds_toArray, List.set_cons_zero, List.set_cons_succ]
      refine take_q (i := 1) (v := ?_) rfl (by kernel_rfl) (by kernel_rfl) (by kernel_rfl) (fun _ _ _ h => h) (Or.inl ⟨by rfl, ?_⟩) (by assumption) ?_
      rotate_left
      · intro w hSw; (try dsimp only at hSw); go_simp; (try simp only [HDEC.out]); (try simp only [HDEC2.out]); try with_reducible rfl
      try simp only [Act.put, List.setIfInBounds_toArray, List.set_cons_zero, List.set_cons_succ]
      refine wpAnyH_ready (rs := [2]) (by kernel_rfl) (by simp) ?_
      refine cons_q rfl (fun K hK => ?_) AllReadyH.nil
      go_simp
      with_reducible refine (HR.out _).mono ?_; rintro e w1 ⟨rfl, hb1⟩
      refine hK.out _ _ ?_ (fun hHeld => ?_)
      · exact ⟨blk_pfx bk_, bl_⟩
      clear hK K
      try simp only [Act.put, List.setIfInBounds_toArray, List.set_cons_zero, List.set_cons_succ]
      refine take_q (i := 3) (v := ?_) rfl (by kernel_rfl) (by kernel_rfl) (by kernel_rfl) (fun _ _ _ h => h) (Or.inl ⟨by rfl, ?_⟩) (by assumption) ?_
      rotate_left
      · intro w hSw; (try dsimp only at hSw); go_simp; (try simp only [HDEC.out]); (try simp only [HDEC2.out]); try with_reducible rfl
      try simp only [Act.put, List.setIfInBounds_toArray, List.set_cons_zero, List.set_cons_succ]
      refine take_q (i := 4) (v := ?_) rfl (by kernel_rfl) (by kernel_rfl) (by kernel_rfl) (fun _ _ _ h => h) (Or.inl ⟨by rfl, ?_⟩) (by assumption) ?_
      rotate_left
      · intro w hSw; (try dsimp only at hSw); go_simp; (try simp only [HDEC.out]); (try simp only [HDEC2.out]); try with_reducible rfl
      try simp only [Act.put, List.setIfInBounds_toArray, List.set_cons_zero, List.set_cons_succ]
      refine take_q (i := 5) (v := ?_) rfl (by kernel_rfl) (by kernel_rfl) (by kernel_rfl) (fun _ _ _ h => h) (Or.inl ⟨by rfl, ?_⟩) (by assumption) ?_
      rotate_left
      · intro w hSw; (try dsimp only at hSw); go_simp; (try simp only [HDEC.out]); (try simp only [HDEC2.out]); try with_reducible rfl
      try simp only [Act.put, List.setIfInBounds_toArray, List.set_cons_zero, List.set_cons_succ]
      refine take_q (i := 6) (v := ?_) rfl (by kernel_rfl) (by kernel_rfl) (by kernel_rfl) (fun _ _ _ h => h) (Or.inl ⟨by rfl, ?_⟩) (by assumption) ?_
      rotate_left
      · intro w hSw; (try dsimp only at hSw); go_simp; (try simp only [HDEC.out]); (try simp only [HDEC2.out]); try with_reducible rfl
      try simp only [Act.put, List.setIfInBounds_toArray, List.set_cons_zero, List.set_cons_succ]
      refine take_q (i := 7) (v := ?_) rfl (by kernel_rfl) (by kernel_rfl) (by kernel_rfl) (fun _ _ _ h => h) (Or.inl ⟨by rfl, ?_⟩) (by assumption) ?_
      rotate_left
      · intro w hSw; (try dsimp only at hSw); go_simp; (try simp only [HDEC.out]); (try simp only [HDEC2.out]); try with_reducible rfl
      try simp only [Act.put, List.setIfInBounds_toArray, List.set_cons_zero, List.set_cons_succ]
      refine take_q (i := 8) (v := ?_) rfl (by kernel_rfl) (by kernel_rfl) (by kernel_rfl) (fun _ _ _ h => h) (Or.inl ⟨by rfl, ?_⟩) (by assumption) ?_
      rotate_left
      · intro w hSw; (try dsimp only at hSw); go_simp; (try simp only [HDEC.out]); (try simp only [HDEC2.out]); try with_reducible rfl
      try simp only [Act.put, List.setIfInBounds_toArray, List.set_cons_zero, List.set_cons_succ]
      refine take_q (i := 9) (v := ?_) rfl (by kernel_rfl) (by kernel_rfl) (by kernel_rfl) (fun _ _ _ h => h) (Or.inl ⟨by rfl, ?_⟩) (by assumption) ?_
      rotate_left
      · intro w hSw; (try dsimp only at hSw); go_simp; (try simp only [HDEC.out]); (try simp only [HDEC2.out]); try with_reducible rfl
      try simp only [Act.put, List.setIfInBounds_toArray, List.set_cons_zero, List.set_cons_succ]
      refine take_q (i := 10) (v := ?_) rfl (by kernel_rfl) (by kernel_rfl) (by kernel_rfl) (fun _ _ _ h => h) (Or.inl ⟨by rfl, ?_⟩) (by assumption) ?_
      rotate_left
      · intro w hSw; (try dsimp only at hSw); go_simp; (try simp only [HDEC.out]); (try simp only [HDEC2.out]); try with_reducible rfl
      try simp only [Act.put, List.setIfInBounds_toArray, List.set_cons_zero, List.set_cons_succ]
      refine take_q (i := 11) (v := ?_) rfl (by kernel_rfl) (by kernel_rfl) (by kernel_rfl) (fun _ _ _ h => h) (Or.inl ⟨by rfl, ?_⟩) (by assumption) ?_
      rotate_left
      · intro w hSw; (try dsimp only at hSw); go_simp; (try simp only [HDEC.out]); (try simp only [HDEC2.out]); try with_reducible rfl
      try simp only [Act.put, List.setIfInBounds_toArray, List.set_cons_zero, List.set_cons_succ]
      refine take_q (i := 12) (v := ?_) rfl (by kernel_rfl) (by kernel_rfl) (by kernel_rfl) (fun _ _ _ h => h) (Or.inl ⟨by rfl, ?_⟩) (by assumption) ?_
      rotate_left
      · intro w hSw; (try dsimp only at hSw); go_simp; (try simp only [HDEC.out]); (try simp only [HDEC2.out]); try with_reducible rfl
      try simp only [Act.put, List.setIfInBounds_toArray, List.set_cons_zero, List.set_cons_succ]
      refine wpAnyH_ready (rs := [13]) (by kernel_rfl) (by simp) ?_
      refine cons_q rfl (fun K hK => ?_) AllReadyH.nil
      go_simp
      with_reducible refine (HW.out _).mono ?_; rintro e w2 ⟨rfl, hb2⟩
      refine hK.out _ _ ?_ (fun hHeld => ?_)
      · exact ⟨blk_pfx bk_, bl_⟩
      clear hK K
      try simp only [Act.put, List.setIfInBounds_toArray, List.set_cons_zero, List.set_cons_succ]
      refine take_q (i := 14) (v := ?_) rfl (by kernel_rfl) (by kernel_rfl) (by kernel_rfl) (fun _ _ _ h => h) (Or.inl ⟨by rfl, ?_⟩) (by assumption) ?_
      rotate_left
      · intro w hSw; (try dsimp only at hSw); go_simp; (try simp only [HDEC.out]); (try simp only [HDEC2.out]); try with_reducible rfl
      try simp only [Act.put, List.setIfInBounds_toArray, List.set_cons_zero, List.set_cons_succ]
      refine take_q (i := 15) (v := ?_) rfl (by kernel_rfl) (by kernel_rfl) (by kernel_rfl) (fun _ _ _ h => h) (Or.inl ⟨by rfl, ?_⟩) (by assumption) ?_
      rotate_left
      · intro w hSw; (try dsimp only at hSw); go_simp; (try simp only [HDEC.out]); (try simp only [HDEC2.out]); try with_reducible rfl
      try simp only [Act.put, List.setIfInBounds_toArray, List.set_cons_zero, List.set_cons_succ]
      refine take_q (i := 16) (v := ?_) rfl (by kernel_rfl) (by kernel_rfl) (by kernel_rfl) (fun _ _ _ h => h) (Or.inl ⟨by rfl, ?_⟩) (by assumption) ?_
      rotate_left
      · intro w hSw; (try dsimp only at hSw); go_simp; (try simp only [HDEC.out]); (try simp only [HDEC2.out]); try with_reducible rfl
      try simp only [Act.put, List.setIfInBounds_toArray, List.set_cons_zero, List.set_cons_succ]
      refine take_q (i := 17) (v := ?_) rfl (by kernel_rfl) (by kernel_rfl) (by kernel_rfl) (fun _ _ _ h => h) (Or.inl ⟨by rfl, ?_⟩) (by assumption) ?_
      rotate_left
      · intro w hSw; (try dsimp only at hSw); go_simp; (try simp only [HDEC.out]); (try simp only [HDEC2.out]); try with_reducible rfl
      try simp only [Act.put, List.setIfInBounds_toArray, List.set_cons_zero, List.set_cons_succ]
      refine take_q (i := 18) (v := ?_) rfl (by kernel_rfl) (by kernel_rfl) (by kernel_rfl) (fun _ _ _ h => h) (Or.inl ⟨by rfl, ?_⟩) (by assumption) ?_
      rotate_left
      · intro w hSw; (try dsimp only at hSw); go_simp; (try simp only [HDEC.out]); (try simp only [HDEC2.out]); try with_reducible rfl
      try simp only [Act.put, List.setIfInBounds_toArray, List.set_cons_zero, List.set_cons_succ]
      refine take_q (i := 19) (v := ?_) rfl (by kernel_rfl) (by kernel_rfl) (by kernel_rfl) (fun _ _ _ h => h) (Or.inl ⟨by rfl, ?_⟩) (by assumption) ?_
      rotate_left
      · intro w hSw; (try dsimp only at hSw); go_simp; (try simp only [HDEC.out]); (try simp only [HDEC2.out]); try with_reducible rfl
      try simp only [Act.put, List.setIfInBounds_toArray, List.set_cons_zero, List.set_cons_succ]
      refine take_q (i := 20) (v := ?_) rfl (by kernel_rfl) (by kernel_rfl) (by kernel_rfl) (fun _ _ _ h => h) (Or.inl ⟨by rfl, ?_⟩) (by assumption) ?_
      rotate_left
      · intro w hSw; (try dsimp only at hSw); go_simp; (try simp only [HDEC.out]); (try simp only [HDEC2.out]); try with_reducible rfl
      try simp only [Act.put, List.setIfInBounds_toArray, List.set_cons_zero, List.set_cons_succ]
      refine take_q (i := 23) (v := ?_) rfl (by kernel_rfl) (by kernel_rfl) (by kernel_rfl) (fun _ _ _ h => h) (Or.inl ⟨by rfl, ?_⟩) (by assumption) ?_
      rotate_left
      · intro w hSw; (try dsimp only at hSw); go_simp; (try simp only [HDEC.out]); (try simp only [HDEC2.out]); try with_reducible rfl
      try simp only [Act.put, List.setIfInBounds_toArray, List.set_cons_zero, List.set_cons_succ]
      refine wpAnyH_ready (rs := [21]) (by kernel_rfl) (by simp) ?_
      refine cons_q rfl (fun K hK => ?_) AllReadyH.nil
      go_simp
      with_reducible refine (HF.out _).mono ?_; rintro e w3 ⟨rfl, hb3⟩
      refine hK.out _ _ ?_ (fun hHeld => ?_)
      · exact ⟨blk_pfx bk_, bl_⟩
      clear hK K
      try simp only [Act.put, List.setIfInBounds_toArray, List.set_cons_zero, List.set_cons_succ]
      refine wpAnyH_ready (rs := [22]) (by kernel_rfl) (by simp) ?_
      refine cons_q rfl (fun K hK => ?_) AllReadyH.nil
      go_simp
      with_reducible refine (HN.out _).mono ?_; rintro e w4 ⟨rfl, hb4⟩
      refine hK.out _ _ ?_ (fun hHeld => ?_)
      · exact ⟨blk_pfx bk_, bl_⟩
      clear hK K
      try simp only [Act.put, List.setIfInBounds_toArray, List.set_cons_zero, List.set_cons_succ]
      refine take_q (i := 24) (v := ?_) rfl (by kernel_rfl) (by kernel_rfl) (by kernel_rfl) (fun _ _ _ h => h) (Or.inl ⟨by rfl, ?_⟩) (by assumption) ?_
      rotate_left
      · intro w hSw; (try dsimp only at hSw); go_simp; (try simp only [HDEC.out]); (try simp only [HDEC2.out]); try with_reducible rfl
      try simp only [Act.put, List.setIfInBounds_toArray, List.set_cons_zero, List.set_cons_succ]
      refine take_q (i := 25) (v := ?_) rfl (by kernel_rfl) (by kernel_rfl) (by kernel_rfl) (fun _ _ _ h => h) (Or.inl ⟨by rfl, ?_⟩) (by assumption) ?_
      rotate_left
      · intro w hSw; (try dsimp only at hSw); go_simp; (try simp only [HDEC.out]); (try simp only [HDEC2.out]); try with_reducible rfl
      try simp only [Act.put, List.setIfInBounds_toArray, List.set_cons_zero, List.set_cons_succ]
      refine take_q (i := 26) (v := ?_) rfl (by kernel_rfl) (by kernel_rfl) (by kernel_rfl) (fun _ _ _ h => h) (Or.inl ⟨by rfl, ?_⟩) (by assumption) ?_
      rotate_left
      · intro w hSw; (try dsimp only at hSw); go_simp; (try simp only [HDEC.out]); (try simp only [HDEC2.out]); try with_reducible rfl
      try simp only [Act.put, List.setIfInBounds_toArray, List.set_cons_zero, List.set_cons_succ]
      refine wpAnyH_done (by kernel_rfl) ?_ _
      go_wp2_with fail
      go_ret
      exact ⟨rfl, hHeld.2⟩
end Go.Proofs.YtgdgklibilddgaaDoor

namespace Go.Proofs.YtgdgklibilddgaaDoor
open Go.RowKit

def okW (h l : Int) : Bool := decide (0 ≤ h) && (decide (h < 18446744073709551616) && (decide (0 ≤ l) && decide (l < 18446744073709551616)))
theorem okW_iff {h l : Int} : okW h l = true ↔ 0 ≤ h ∧ h < 18446744073709551616 ∧ 0 ≤ l ∧ l < 18446744073709551616 := by
  unfold okW; simp
theorem okW_lt {h l : Int} (k : okW h l = true) : num h l < 340282366920938463463374607431768211456 := by
  have := okW_iff.1 k; exact num_lt this.2.1 this.2.2.2
theorem okW_num {h l : Int} (k : okW h l = true) : Value.agg #[.int .u64 h, .int .u64 l] = numV (num h l) := by
  have := okW_iff.1 k; rw [numV, hi_num this.1 this.2.1 this.2.2.1 this.2.2.2, lo_num this.2.2.1 this.2.2.2]
theorem okW_adr {v : Bool} {h l : Int} (k : okW h l = true) : Value.agg #[.bool v, .int .u64 h, .int .u64 l] = AddrV v (num h l) := by
  have := okW_iff.1 k; rw [AddrV, hi_num this.1 this.2.1 this.2.2.1 this.2.2.2, lo_num this.2.2.1 this.2.2.2]
theorem okW_pfx {v : Bool} {h l b : Int} (k : okW h l = true) : Value.agg #[.bool v, .int .u64 h, .int .u64 l, .int .i64 b] = PfxV v (num h l) b := by
  have := okW_iff.1 k; rw [PfxV, PfxC, hi_num this.1 this.2.1 this.2.2.1 this.2.2.2, lo_num this.2.2.1 this.2.2.2]
theorem okW_hl (n : Nat) : okW (hi n) (lo n) = true := okW_iff.2 ⟨hi_nn n, hi_lt n, lo_nn n, lo_lt n⟩
theorem some_if {α : Type} {b : Bool} {x y : α} (h : (if b = true then some x else none) = some y) : b = true ∧ x = y := by
  cases b
  · cases h
  · injection h with h; exact ⟨rfl, h⟩
theorem glob_keep {w w' : World} (h : Glob w) (hb : Below w.heap.size w w') : Glob w' := h.after hb
/-- an address so far behind -/
def plusP (v : Bool) (a n : Nat) : Bool × Nat × Int := if rightB v a = true then (if (addF a n && rightB v (addN a n)) = true then (v, addN a n, 0) else (false, 0, 11)) else (false, 0, 1)
theorem plusV_P (v : Bool) (a n : Nat) : plusV v a n = .tuple #[.agg #[.bool (plusP v a n).1, .int .u64 (hi (plusP v a n).2.1), .int .u64 (lo (plusP v a n).2.1)], .int .i64 (plusP v a n).2.2] := by
  unfold plusV plusP
  split
  · split <;> rfl
  · rfl
def parseP : Option (Bool × Nat) → Bool × Nat × Int
  | some (v, n) => (v, n, 0)
  | none => (false, 0, 4)
theorem parseV_P (x : Option (Bool × Nat)) : parseV x = .tuple #[.agg #[.bool (parseP x).1, .int .u64 (hi (parseP x).2.1), .int .u64 (lo (parseP x).2.1)], .int .i64 (parseP x).2.2] := by
  rcases x with _ | ⟨v, n⟩ <;> rfl

def num_Shl.f (a0_0 a0_1 : Int) (a1 : Int) : Option (Int × Int) := if (okW a0_0 a0_1 && (decide (-9223372036854775808 ≤ a1))) = true then some (hi (shlN (num a0_0 a0_1) a1), lo (shlN (num a0_0 a0_1) a1)) else none
theorem num_Shl.calls (a0_0 a0_1 : Int) (a1 : Int) (r1 : Int) (r2 : Int) (w : World) (h : num_Shl.f a0_0 a0_1 a1 = some (r1, r2)) :
    Calls Tryd.prog 42 #[.agg #[.int .u64 a0_0, .int .u64 a0_1], .int .i64 a1] w fun e w' => e = .returned (.agg #[.int .u64 r1, .int .u64 r2]) ∧ Below w.heap.size w w' := by
  unfold num_Shl.f at h
  obtain ⟨hg, h⟩ := some_if h
  simp only [Bool.and_eq_true] at hg
  obtain ⟨g0, hk0⟩ := hg
  have h0 := okW_iff.1 g0
  have hk := of_decide_eq_true hk0
  obtain ⟨rfl, rfl⟩ := Prod.mk.inj h
  exact shl_c a0_0 a0_1 a1 w h0.1 h0.2.1 h0.2.2.1 h0.2.2.2 hk
def num_Shr.f (a0_0 a0_1 : Int) (a1 : Int) : Option (Int × Int) := if (okW a0_0 a0_1 && (decide (-9223372036854775808 ≤ a1))) = true then some (hi (shrN (num a0_0 a0_1) a1), lo (shrN (num a0_0 a0_1) a1)) else none
theorem num_Shr.calls (a0_0 a0_1 : Int) (a1 : Int) (r1 : Int) (r2 : Int) (w : World) (h : num_Shr.f a0_0 a0_1 a1 = some (r1, r2)) :
    Calls Tryd.prog 45 #[.agg #[.int .u64 a0_0, .int .u64 a0_1], .int .i64 a1] w fun e w' => e = .returned (.agg #[.int .u64 r1, .int .u64 r2]) ∧ Below w.heap.size w w' := by
  unfold num_Shr.f at h
  obtain ⟨hg, h⟩ := some_if h
  simp only [Bool.and_eq_true] at hg
  obtain ⟨g0, hk0⟩ := hg
  have h0 := okW_iff.1 g0
  have hk := of_decide_eq_true hk0
  obtain ⟨rfl, rfl⟩ := Prod.mk.inj h
  exact shr_c a0_0 a0_1 a1 w h0.1 h0.2.1 h0.2.2.1 h0.2.2.2 hk
def num_Ones.f (a0 : Int) : Option (Int × Int) := some (hi (onesN a0), lo (onesN a0))
theorem num_Ones.calls (a0 : Int) (r1 : Int) (r2 : Int) (w : World) (h : num_Ones.f a0 = some (r1, r2)) :
    Calls Tryd.prog 87 #[.int .i64 a0] w fun e w' => e = .returned (.agg #[.int .u64 r1, .int .u64 r2]) ∧ Below w.heap.size w w' := by
  unfold num_Ones.f at h
  injection h with h
  obtain ⟨rfl, rfl⟩ := Prod.mk.inj h
  exact ones_c a0 w
def num_Len.f (a0_0 a0_1 : Int) : Option (Int) := if (okW a0_0 a0_1) = true then some ((lenN (num a0_0 a0_1) : Nat) : Int) else none
theorem num_Len.calls (a0_0 a0_1 : Int) (r : Int) (w : World) (h : num_Len.f a0_0 a0_1 = some r) :
    Calls Tryd.prog 56 #[.agg #[.int .u64 a0_0, .int .u64 a0_1]] w fun e w' => e = .returned (.int .i64 r) ∧ Below w.heap.size w w' := by
  unfold num_Len.f at h
  obtain ⟨hg, h⟩ := some_if h
  have g0 := hg
  have h0 := okW_iff.1 g0
  subst h
  exact len_c a0_0 a0_1 w h0.1 h0.2.1 h0.2.2.1 h0.2.2.2
def num_Cmp.f (a0_0 a0_1 : Int) (a1_0 a1_1 : Int) : Option (Int) := if (okW a0_0 a0_1 && (okW a1_0 a1_1)) = true then some (cmpN (num a0_0 a0_1) (num a1_0 a1_1)) else none
theorem num_Cmp.calls (a0_0 a0_1 : Int) (a1_0 a1_1 : Int) (r : Int) (w : World) (h : num_Cmp.f a0_0 a0_1 a1_0 a1_1 = some r) :
    Calls Tryd.prog 50 #[.agg #[.int .u64 a0_0, .int .u64 a0_1], .agg #[.int .u64 a1_0, .int .u64 a1_1]] w fun e w' => e = .returned (.int .i64 r) ∧ Below w.heap.size w w' := by
  unfold num_Cmp.f at h
  obtain ⟨hg, h⟩ := some_if h
  simp only [Bool.and_eq_true] at hg
  obtain ⟨g0, g1⟩ := hg
  have h0 := okW_iff.1 g0
  have h1 := okW_iff.1 g1
  subst h
  exact cmp_c a0_0 a0_1 a1_0 a1_1 w h0.1 h0.2.1 h0.2.2.1 h0.2.2.2 h1.1 h1.2.1 h1.2.2.1 h1.2.2.2
def num_And.f (a0_0 a0_1 : Int) (a1_0 a1_1 : Int) : Option (Int × Int) := if (okW a0_0 a0_1 && (okW a1_0 a1_1)) = true then some (hi (num a0_0 a0_1 &&& num a1_0 a1_1), lo (num a0_0 a0_1 &&& num a1_0 a1_1)) else none
theorem num_And.calls (a0_0 a0_1 : Int) (a1_0 a1_1 : Int) (r1 : Int) (r2 : Int) (w : World) (h : num_And.f a0_0 a0_1 a1_0 a1_1 = some (r1, r2)) :
    Calls Tryd.prog 72 #[.agg #[.int .u64 a0_0, .int .u64 a0_1], .agg #[.int .u64 a1_0, .int .u64 a1_1]] w fun e w' => e = .returned (.agg #[.int .u64 r1, .int .u64 r2]) ∧ Below w.heap.size w w' := by
  unfold num_And.f at h
  obtain ⟨hg, h⟩ := some_if h
  simp only [Bool.and_eq_true] at hg
  obtain ⟨g0, g1⟩ := hg
  have h0 := okW_iff.1 g0
  have h1 := okW_iff.1 g1
  obtain ⟨rfl, rfl⟩ := Prod.mk.inj h
  rw [okW_num g0]
  rw [okW_num g1]
  exact andn_c (num a0_0 a0_1) (num a1_0 a1_1) w
def num_Or.f (a0_0 a0_1 : Int) (a1_0 a1_1 : Int) : Option (Int × Int) := if (okW a0_0 a0_1 && (okW a1_0 a1_1)) = true then some (hi (num a0_0 a0_1 ||| num a1_0 a1_1), lo (num a0_0 a0_1 ||| num a1_0 a1_1)) else none
theorem num_Or.calls (a0_0 a0_1 : Int) (a1_0 a1_1 : Int) (r1 : Int) (r2 : Int) (w : World) (h : num_Or.f a0_0 a0_1 a1_0 a1_1 = some (r1, r2)) :
    Calls Tryd.prog 41 #[.agg #[.int .u64 a0_0, .int .u64 a0_1], .agg #[.int .u64 a1_0, .int .u64 a1_1]] w fun e w' => e = .returned (.agg #[.int .u64 r1, .int .u64 r2]) ∧ Below w.heap.size w w' := by
  unfold num_Or.f at h
  obtain ⟨hg, h⟩ := some_if h
  simp only [Bool.and_eq_true] at hg
  obtain ⟨g0, g1⟩ := hg
  have h0 := okW_iff.1 g0
  have h1 := okW_iff.1 g1
  obtain ⟨rfl, rfl⟩ := Prod.mk.inj h
  rw [okW_num g0]
  rw [okW_num g1]
  exact orn_c (num a0_0 a0_1) (num a1_0 a1_1) w (okW_lt g0) (okW_lt g1)
def num_Not.f (a0_0 a0_1 : Int) : Option (Int × Int) := if (okW a0_0 a0_1) = true then some (hi (notN (num a0_0 a0_1)), lo (notN (num a0_0 a0_1))) else none
theorem num_Not.calls (a0_0 a0_1 : Int) (r1 : Int) (r2 : Int) (w : World) (h : num_Not.f a0_0 a0_1 = some (r1, r2)) :
    Calls Tryd.prog 74 #[.agg #[.int .u64 a0_0, .int .u64 a0_1]] w fun e w' => e = .returned (.agg #[.int .u64 r1, .int .u64 r2]) ∧ Below w.heap.size w w' := by
  unfold num_Not.f at h
  obtain ⟨hg, h⟩ := some_if h
  have g0 := hg
  have h0 := okW_iff.1 g0
  obtain ⟨rfl, rfl⟩ := Prod.mk.inj h
  exact not_c a0_0 a0_1 w h0.1 h0.2.1 h0.2.2.1 h0.2.2.2
def addr_Width.f (a0_0 : Bool) (a0_1 a0_2 : Int) : Option (Int) := if (okW a0_1 a0_2) = true then some ((widthN a0_0 : Nat) : Int) else none
theorem addr_Width.calls (a0_0 : Bool) (a0_1 a0_2 : Int) (r : Int) (w : World) (h : addr_Width.f a0_0 a0_1 a0_2 = some r) :
    Calls Tryd.prog 44 #[.agg #[.bool a0_0, .int .u64 a0_1, .int .u64 a0_2]] w fun e w' => e = .returned (.int .i64 r) ∧ Below w.heap.size w w' := by
  unfold addr_Width.f at h
  obtain ⟨hg, h⟩ := some_if h
  have g0 := hg
  have h0 := okW_iff.1 g0
  subst h
  rw [okW_adr g0]
  exact width_c a0_0 (num a0_1 a0_2) w
def addr_Right.f (a0_0 : Bool) (a0_1 a0_2 : Int) : Option (Bool) := if (okW a0_1 a0_2) = true then some (rightB a0_0 (num a0_1 a0_2)) else none
theorem addr_Right.calls (a0_0 : Bool) (a0_1 a0_2 : Int) (r : Bool) (w : World) (h : addr_Right.f a0_0 a0_1 a0_2 = some r) :
    Calls Tryd.prog 25 #[.agg #[.bool a0_0, .int .u64 a0_1, .int .u64 a0_2]] w fun e w' => e = .returned (.bool r) ∧ Below w.heap.size w w' := by
  unfold addr_Right.f at h
  obtain ⟨hg, h⟩ := some_if h
  have g0 := hg
  have h0 := okW_iff.1 g0
  subst h
  rw [okW_adr g0]
  exact right_c a0_0 (num a0_1 a0_2) w (okW_lt g0)
def platbookref02_Width.f (a0_0 : Bool) (a0_1 a0_2 : Int) : Option (Int) := if (okW a0_1 a0_2) = true then some ((widthN a0_0 : Nat) : Int) else none
theorem platbookref02_Width.calls (a0_0 : Bool) (a0_1 a0_2 : Int) (r : Int) (w : World) (h : platbookref02_Width.f a0_0 a0_1 a0_2 = some r) :
    Calls Tryd.prog 47 #[.agg #[.bool a0_0, .int .u64 a0_1, .int .u64 a0_2]] w fun e w' => e = .returned (.int .i64 r) ∧ Below w.heap.size w w' := by
  unfold platbookref02_Width.f at h
  obtain ⟨hg, h⟩ := some_if h
  have g0 := hg
  have h0 := okW_iff.1 g0
  subst h
  rw [okW_adr g0]
  exact rwidth_c a0_0 (num a0_1 a0_2) w
def platbookref02_Right.f (a0_0 : Bool) (a0_1 a0_2 : Int) : Option (Bool) := if (okW a0_1 a0_2) = true then some (rightB a0_0 (num a0_1 a0_2)) else none
theorem platbookref02_Right.calls (a0_0 : Bool) (a0_1 a0_2 : Int) (r : Bool) (w : World) (h : platbookref02_Right.f a0_0 a0_1 a0_2 = some r) :
    Calls Tryd.prog 11 #[.agg #[.bool a0_0, .int .u64 a0_1, .int .u64 a0_2]] w fun e w' => e = .returned (.bool r) ∧ Below w.heap.size w w' := by
  unfold platbookref02_Right.f at h
  obtain ⟨hg, h⟩ := some_if h
  have g0 := hg
  have h0 := okW_iff.1 g0
  subst h
  rw [okW_adr g0]
  exact rright_c a0_0 (num a0_1 a0_2) w (okW_lt g0)
def addr_Cmp.f (a0_0 : Bool) (a0_1 a0_2 : Int) (a1_0 : Bool) (a1_1 a1_2 : Int) : Option (Int) := if (okW a0_1 a0_2 && (okW a1_1 a1_2)) = true then some (cmpA a0_0 (num a0_1 a0_2) a1_0 (num a1_1 a1_2)) else none
theorem addr_Cmp.calls (a0_0 : Bool) (a0_1 a0_2 : Int) (a1_0 : Bool) (a1_1 a1_2 : Int) (r : Int) (w : World) (h : addr_Cmp.f a0_0 a0_1 a0_2 a1_0 a1_1 a1_2 = some r) :
    Calls Tryd.prog 19 #[.agg #[.bool a0_0, .int .u64 a0_1, .int .u64 a0_2], .agg #[.bool a1_0, .int .u64 a1_1, .int .u64 a1_2]] w fun e w' => e = .returned (.int .i64 r) ∧ Below w.heap.size w w' := by
  unfold addr_Cmp.f at h
  obtain ⟨hg, h⟩ := some_if h
  simp only [Bool.and_eq_true] at hg
  obtain ⟨g0, g1⟩ := hg
  have h0 := okW_iff.1 g0
  have h1 := okW_iff.1 g1
  subst h
  rw [okW_adr g0]
  rw [okW_adr g1]
  exact acmp_c a0_0 (num a0_1 a0_2) a1_0 (num a1_1 a1_2) w (okW_lt g0) (okW_lt g1)
def addr_Plus.f (a0_0 : Bool) (a0_1 a0_2 : Int) (a1_0 a1_1 : Int) : Option (Bool × Int × Int × Int) := if (okW a0_1 a0_2 && (okW a1_0 a1_1)) = true then some ((plusP a0_0 (num a0_1 a0_2) (num a1_0 a1_1)).1, hi (plusP a0_0 (num a0_1 a0_2) (num a1_0 a1_1)).2.1, lo (plusP a0_0 (num a0_1 a0_2) (num a1_0 a1_1)).2.1, (plusP a0_0 (num a0_1 a0_2) (num a1_0 a1_1)).2.2) else none
theorem addr_Plus.calls (a0_0 : Bool) (a0_1 a0_2 : Int) (a1_0 a1_1 : Int) (r1 : Bool) (r2 : Int) (r3 : Int) (r4 : Int) (w : World) (h : addr_Plus.f a0_0 a0_1 a0_2 a1_0 a1_1 = some (r1, r2, r3, r4)) :
    Calls Tryd.prog 17 #[.agg #[.bool a0_0, .int .u64 a0_1, .int .u64 a0_2], .agg #[.int .u64 a1_0, .int .u64 a1_1]] w fun e w' => e = .returned (.tuple #[.agg #[.bool r1, .int .u64 r2, .int .u64 r3], .int .i64 r4]) ∧ Below w.heap.size w w' := by
  unfold addr_Plus.f at h
  obtain ⟨hg, h⟩ := some_if h
  simp only [Bool.and_eq_true] at hg
  obtain ⟨g0, g1⟩ := hg
  have h0 := okW_iff.1 g0
  have h1 := okW_iff.1 g1
  simp only [Prod.mk.injEq] at h
  obtain ⟨rfl, rfl, rfl, rfl⟩ := h
  rw [okW_adr g0]
  rw [okW_num g1]
  exact (plusV_P a0_0 (num a0_1 a0_2) (num a1_0 a1_1)) ▸ plus_c a0_0 (num a0_1 a0_2) (num a1_0 a1_1) w (okW_lt g0) (okW_lt g1)
def addr_Parse.f (a0 : ByteArray) : Option (Bool × Int × Int × Int) := if (decide (a0.size ≤ 1000000)) = true then some ((parseP (parseA (bts a0))).1, hi (parseP (parseA (bts a0))).2.1, lo (parseP (parseA (bts a0))).2.1, (parseP (parseA (bts a0))).2.2) else none
theorem addr_Parse.calls (a0 : ByteArray) (r1 : Bool) (r2 : Int) (r3 : Int) (r4 : Int) (w : World) (hG : Glob w) (h : addr_Parse.f a0 = some (r1, r2, r3, r4)) :
    Calls Tryd.prog 12 #[.string a0] w fun e w' => e = .returned (.tuple #[.agg #[.bool r1, .int .u64 r2, .int .u64 r3], .int .i64 r4]) ∧ Below w.heap.size w w' := by
  unfold addr_Parse.f at h
  obtain ⟨hg, h⟩ := some_if h
  have g0 := hg
  simp only [Prod.mk.injEq] at h
  obtain ⟨rfl, rfl, rfl, rfl⟩ := h
  exact (parseV_P (parseA (bts a0))) ▸ parse_c a0 w (of_decide_eq_true g0) hG
def addr_Print.f (a0_0 : Bool) (a0_1 a0_2 : Int) : Option (ByteArray) := if (okW a0_1 a0_2) = true then some (⟨(printA a0_0 (num a0_1 a0_2)).toArray⟩ : ByteArray) else none
theorem addr_Print.calls (a0_0 : Bool) (a0_1 a0_2 : Int) (r : ByteArray) (w : World) (hG : Glob w) (h : addr_Print.f a0_0 a0_1 a0_2 = some r) :
    Calls Tryd.prog 9 #[.agg #[.bool a0_0, .int .u64 a0_1, .int .u64 a0_2]] w fun e w' => e = .returned (.string r) ∧ Below w.heap.size w w' := by
  unfold addr_Print.f at h
  obtain ⟨hg, h⟩ := some_if h
  have g0 := hg
  have h0 := okW_iff.1 g0
  subst h
  rw [okW_adr g0]
  exact print_c a0_0 (num a0_1 a0_2) w (okW_lt g0) hG
def prefix_free.f (a0_0 : Bool) (a0_1 a0_2 a0_3 : Int) : Option (Int × Int) := if (okW a0_1 a0_2 && (decide (0 ≤ a0_3) && (decide (a0_3 ≤ ((widthN a0_0 : Nat) : Int))))) = true then some (hi (2 ^ fr a0_0 a0_3 - 1), lo (2 ^ fr a0_0 a0_3 - 1)) else none
theorem prefix_free.calls (a0_0 : Bool) (a0_1 a0_2 a0_3 : Int) (r1 : Int) (r2 : Int) (w : World) (h : prefix_free.f a0_0 a0_1 a0_2 a0_3 = some (r1, r2)) :
    Calls Tryd.prog 73 #[.agg #[.bool a0_0, .int .u64 a0_1, .int .u64 a0_2, .int .i64 a0_3]] w fun e w' => e = .returned (.agg #[.int .u64 r1, .int .u64 r2]) ∧ Below w.heap.size w w' := by
  unfold prefix_free.f at h
  obtain ⟨hg, h⟩ := some_if h
  simp only [Bool.and_eq_true] at hg
  obtain ⟨g0, hk0, hk20⟩ := hg
  have h0 := okW_iff.1 g0
  have hk := of_decide_eq_true hk0
  have hk2 := of_decide_eq_true hk20
  obtain ⟨rfl, rfl⟩ := Prod.mk.inj h
  rw [okW_pfx g0]
  exact free_c a0_0 (num a0_1 a0_2) a0_3 w hk hk2
def prefix_Right.f (a0_0 : Bool) (a0_1 a0_2 a0_3 : Int) : Option (Bool) := if (okW a0_1 a0_2) = true then some (rightP a0_0 (num a0_1 a0_2) a0_3) else none
theorem prefix_Right.calls (a0_0 : Bool) (a0_1 a0_2 a0_3 : Int) (r : Bool) (w : World) (h : prefix_Right.f a0_0 a0_1 a0_2 a0_3 = some r) :
    Calls Tryd.prog 54 #[.agg #[.bool a0_0, .int .u64 a0_1, .int .u64 a0_2, .int .i64 a0_3]] w fun e w' => e = .returned (.bool r) ∧ Below w.heap.size w w' := by
  unfold prefix_Right.f at h
  obtain ⟨hg, h⟩ := some_if h
  have g0 := hg
  have h0 := okW_iff.1 g0
  subst h
  rw [okW_pfx g0]
  exact rightP_c a0_0 (num a0_1 a0_2) a0_3 w (okW_lt g0)
end Go.Proofs.YtgdgklibilddgaaDoor

namespace Go.Proofs.YtgdgklibilddgaaDoor
open Go.RowKit

theorem below_drewN' (w : World) (k : Nat) : Below w.heap.size w (w.drewN k) := bl_drewN (Below.refl _ _) k
theorem atoi_no (s : ByteArray) (w : World) (hs : s.size ≤ 1000000) (hG : Glob w) (h : ∀ k, Lib.atoiAll (bts s) ≠ .ok k) :
    Calls Tryd.prog 71 #[.string s] w fun e w' => (∃ (n : Int) (N : Nat), e = .returned (.tuple #[.int .i64 n, .iface 129 (.pointer (some ⟨N, 0, none⟩))])) ∧ Below w.heap.size w w' := by
  have hx : Lib.atoiAll (bts s) = Lib.atoiAll [] ∨ Lib.atoiAll (bts s) = .range := by
    rcases he : Lib.atoiAll (bts s) with u | _ | _
    · exact absurd he (h u)
    · exact .inl rfl
    · exact .inr rfl
  rcases hx with hx | hx
  · obtain ⟨tp, p, hv⟩ := hG.syn
    refine (Tryd.strconv_Atoi_syntax s (by omega) hx (.iface tp p) w (World.var?_cell (g := 2) (by kernel_rfl) hv 0) (.inr ⟨tp, p, rfl⟩)).mono ?_
    rintro e w' ⟨N, rfl, _, _, hb⟩
    exact ⟨⟨_, N, rfl⟩, hb⟩
  · obtain ⟨tp, p, hv⟩ := hG.rng
    refine (Tryd.strconv_Atoi_range s (by omega) hx (.iface tp p) w (World.var?_cell (g := 3) (by kernel_rfl) hv 0) (.inr ⟨tp, p, rfl⟩)).mono ?_
    rintro e w' ⟨N, rfl, _, _, hb⟩
    exact ⟨⟨_, N, rfl⟩, hb⟩
theorem atoi_yes (s : ByteArray) (k : Int) (w : World) (hs : s.size ≤ 1000000) (h : Lib.atoiAll (bts s) = .ok k) :
    Calls Tryd.prog 71 #[.string s] w fun e w' => e = .returned (.tuple #[.int .i64 k, .nilIface]) ∧ Below w.heap.size w w' := by
  refine (Tryd.strconv_Atoi_ok s (by omega) k h w).mono ?_
  rintro e w' ⟨rfl, rfl | ⟨t, rfl⟩⟩
  · exact ⟨rfl, Below.refl _ _⟩
  · exact ⟨rfl, Lib.bytesWorld_below _ _ _⟩
theorem itoaI_c (n : Int) (w : World) (h0 : -9223372036854775808 ≤ n) (h1 : n ≤ 9223372036854775807) (hG : Glob w) :
    Calls Tryd.prog 57 #[.int .i64 n] w fun e w' => e = .returned (.string ⟨(Lib.itoa n).toArray⟩) ∧ Below w.heap.size w w' := by
  refine (Tryd.strconv_Itoa n h0 h1 w hG.tab).mono ?_
  rintro e w' ⟨rfl, k, os, rfl⟩
  exact ⟨rfl, Lib.below_grow _ w (Nat.le_refl _) k os⟩
def atoiP (l : List UInt8) : Option Int := match Lib.atoiAll l with
  | .ok v => some v
  | _ => none
theorem atoiP_some {l : List UInt8} {k : Int} (h : atoiP l = some k) : Lib.atoiAll l = .ok k := by
  unfold atoiP at h
  split at h
  · injection h with h; subst h; assumption
  · cases h
theorem atoiP_none {l : List UInt8} (h : atoiP l = none) : ∀ k, Lib.atoiAll l ≠ .ok k := by
  intro k hk
  unfold atoiP at h
  rw [hk] at h; cases h
/-- the prefix of a text -/
def parsePfx (l : List UInt8) : Option (Bool × Nat × Int) :=
  match parseA (Lib.cut l [47]).1, atoiP (Lib.cut l [47]).2.1 with
  | some (v, n), some k => if (Lib.itoa k == (Lib.cut l [47]).2.1 && rightP v n k) = true then some (v, n, k) else none
  | _, _ => none
def pfxP : Option (Bool × Nat × Int) → Bool × Nat × Int × Int
  | some (v, n, k) => (v, n, k, 0)
  | none => (false, 0, 0, 4)
def pfxR (x : Option (Bool × Nat × Int)) : Value := .tuple #[PfxV (pfxP x).1 (pfxP x).2.1 (pfxP x).2.2.1, .int .i64 (pfxP x).2.2.2]
theorem pfxR_none : pfxR none = .tuple #[.agg #[.bool false, .int .u64 0, .int .u64 0, .int .i64 0], .int .i64 4] := rfl
theorem pfxR_some (v : Bool) (n : Nat) (k : Int) : pfxR (some (v, n, k)) = .tuple #[.agg #[.bool v, .int .u64 (hi n), .int .u64 (lo n), .int .i64 k], .int .i64 0] := rfl
theorem cut_len (l : List UInt8) : (Lib.cut l [47]).1.length ≤ l.length ∧ (Lib.cut l [47]).2.1.length ≤ l.length := by
  unfold Lib.cut
  split
  · exact ⟨by simp; omega, by simp⟩
  · simp
theorem sideP_lt (last : Bool) : ∀ {ps : List (List UInt8)} {G : List Nat}, sideP last ps = some G → ∀ g ∈ G, g < 65536
  | [], G, h, g, hg => by simp only [sideP, Option.some.injEq] at h; subst h; cases hg
  | w :: q, G, h, g, hg => by
    rw [sideP] at h
    split at h
    · rw [Option.map_eq_some_iff] at h
      obtain ⟨t, ht, rfl⟩ := h
      obtain ⟨h1, h2⟩ := four_lt ht
      match t, h1, h2 with
      | [a, b, c, d], _, h2 =>
        have ha := h2 a (by simp)
        have hb := h2 b (by simp)
        have hc := h2 c (by simp)
        have hd := h2 d (by simp)
        simp only [grp, List.mem_cons, List.not_mem_nil, or_false] at hg
        rcases hg with rfl | rfl <;> omega
    · cases hx : hex16 w with
      | none => rw [hx] at h; cases h
      | some x =>
        rw [hx] at h
        simp only [Option.map_eq_some_iff] at h
        obtain ⟨t, ht, rfl⟩ := h
        rcases List.mem_cons.1 hg with rfl | hg
        · exact hex16_lt hx
        · exact sideP_lt last ht g hg
theorem side_lt {last : Bool} {s : List UInt8} {G : List Nat} (h : side last s = some G) : ∀ g ∈ G, g < 65536 := by
  unfold side at h
  split at h
  · injection h with h; subst h; intro g hg; cases hg
  · exact sideP_lt last h
theorem parseA_lt {l : List UInt8} {v : Bool} {n : Nat} (h : parseA l = some (v, n)) : n < 340282366920938463463374607431768211456 := by
  unfold parseA at h
  split at h
  · split at h
    · split at h
      · rename_i l r hl hr hc
        injection h with h
        injection h with _ h
        subst h
        have h1 := side_lt hl
        have h2 := side_lt hr
        have hlen : (l ++ nulls (8 - l.length - r.length) ++ r).length = 8 := by
          simp only [nulls, List.length_append, List.length_replicate]; omega
        have := valG_lt (l ++ nulls (8 - l.length - r.length) ++ r) (by
          intro g hg
          simp only [nulls, List.mem_append, List.mem_replicate] at hg
          rcases hg with (hg | ⟨_, rfl⟩) | hg
          · exact h1 g hg
          · decide
          · exact h2 g hg)
        rw [hlen] at this
        exact this
      · cases h
    · cases h
  · rw [Option.map_eq_some_iff] at h
    obtain ⟨t, ht, h⟩ := h
    injection h with _ h
    subst h
    obtain ⟨h1, h2⟩ := four_lt ht
    have := valB_lt t (fun k hk => by have := h2 k hk; omega)
    rw [h1] at this
    exact Nat.lt_of_lt_of_le this (by decide)
set_option maxRecDepth 100000 in
set_option maxHeartbeats 3200000 in
theorem ppfx_c (s : ByteArray) (w : World) (hs : s.size ≤ 1000000) (hG : Glob w) :
    Calls Tryd.prog 51 #[.string s] w fun e w' => e = .returned (pfxR (parsePfx (bts s))) ∧ Below w.heap.size w w' := by
  have HC := Lib.hid (fun w (hG : Glob w) => hG.max.elim fun m hm => Tryd.strings_Cut s ⟨#[47]⟩ m w (by omega) hm)
  have hsz := cut_len (bts s)
  have hbl : (bts s).length = s.size := by simp [bts]
  have hP : parsePfx (bts s) = (match parseA (Lib.cut (bts s) [47]).1, atoiP (Lib.cut (bts s) [47]).2.1 with
  | some (v, n), some k => if (Lib.itoa k == (Lib.cut (bts s) [47]).2.1 && rightP v n k) = true then some (v, n, k) else none
  | _, _ => none) := rfl
  rw [hP]
  clear hP
  have e1 : Lib.cut s.data.toList (ByteArray.mk #[47]).data.toList = Lib.cut (bts s) [47] := rfl
  rw [e1] at HC
  clear e1
  generalize (Lib.cut (bts s) [47]).1 = p at *
  generalize (Lib.cut (bts s) [47]).2.1 = q at *
  generalize (Lib.cut (bts s) [47]).2.2 = cut at *
  have HA := Lib.hid (fun w hG => parse_c ⟨p.toArray⟩ w (by show p.toArray.size ≤ _; rw [List.size_toArray]; omega) hG)
  rw [bts_mk] at HA
  have hq : (ByteArray.mk q.toArray).size ≤ 1000000 := by show q.toArray.size ≤ _; rw [List.size_toArray]; omega
  clear hsz hbl
  cases hpa : parseA p with
  | none =>
    rw [hpa] at HA
    rw [show parseV none = .tuple #[.agg #[.bool false, .int .u64 0, .int .u64 0], .int .i64 4] from rfl] at HA
    have HE := Lib.hid pfxR_none
    clear hpa
    have HT := Lib.hid (show ∀ w, Glob w → Calls Tryd.prog 71 #[.string ⟨q.toArray⟩] w fun e w' => (∃ (n : Int) (b : Value), (b = .nilIface ∨ ∃ N : Nat, b = .iface 129 (.pointer (some ⟨N, 0, none⟩))) ∧ e = .returned (.tuple #[.int .i64 n, b])) ∧ Below w.heap.size w w' by
      intro w hG
      cases ha : atoiP q with
      | none =>
        refine (atoi_no ⟨q.toArray⟩ w hq hG (by rw [bts_mk]; exact atoiP_none ha)).mono ?_
        rintro e w' ⟨⟨n, N, rfl⟩, hb⟩
        exact ⟨⟨n, _, .inr ⟨N, rfl⟩, rfl⟩, hb⟩
      | some k =>
        refine (atoi_yes ⟨q.toArray⟩ k w hq (by rw [bts_mk]; exact atoiP_some ha)).mono ?_
        rintro e w' ⟨rfl, hb⟩
        exact ⟨⟨k, _, .inl rfl, rfl⟩, hb⟩)
    clear hq
    go_enter Tryd.func51, Tryd.ntmps51
    go_wp2_with fail
    have hX : Blk (w.alloc (Obj.cells #[.bool false, .int .u64 0, .int .u64 0, .int .i64 0] 43)) (w.heap.size) 43 (PfxC false 0 0) := (Blk.new' _ _ _ _ (by simp) : Blk (w.alloc (Obj.cells #[.bool false, .int .u64 0, .int .u64 0, .int .i64 0] 43)) (w.heap.size) 43 (PfxC false 0 0))
    have hbel : Below w.heap.size w (w.alloc (Obj.cells #[.bool false, .int .u64 0, .int .u64 0, .int .i64 0] 43)) := bl_
    replace hG := hG.after hbel
    have hsz : (w.alloc (Obj.cells #[.bool false, .int .u64 0, .int .u64 0, .int .i64 0] 43)).heap.size = w.heap.size + 1 := by simp
    generalize w.alloc (Obj.cells #[.bool false, .int .u64 0, .int .u64 0, .int .i64 0] 43) = w1 at *
    refine (HC.out _ hG).mono ?_
    rintro e w2 ⟨rfl, kd, rfl⟩
    have hb := below_drewN' w1 kd
    replace hX := hX.after hb
    replace hG := hG.after hb
    replace hbel := bl_trans hbel hb
    clear hb HC hsz
    generalize w1.drewN kd = w2 at *
    go_wp2_with fail
    refine (HA.out _ hG).mono ?_
    rintro e w3 ⟨rfl, hb⟩
    replace hX := hX.after hb
    replace hG := hG.after hb
    replace hbel := bl_trans hbel hb
    clear hb HA
    go_wp2_with fail
    have hA : Blk (w3.alloc (Obj.cells #[Value.bool false, Value.int IntKind.u64 0, Value.int IntKind.u64 0] 26)) w3.heap.size 26 (AddrC false 0) := Blk.new _ _ _
    have hX4 := hX.alloc (Obj.cells #[Value.bool false, Value.int IntKind.u64 0, Value.int IntKind.u64 0] 26)
    have hG4 : Glob (w3.alloc (Obj.cells #[Value.bool false, Value.int IntKind.u64 0, Value.int IntKind.u64 0] 26)) := hG.after bl_
    have hbel4 : Below w.heap.size w (w3.alloc (Obj.cells #[Value.bool false, Value.int IntKind.u64 0, Value.int IntKind.u64 0] 26)) := bl_
    clear hX hG hbel
    generalize w3.alloc (Obj.cells #[Value.bool false, Value.int IntKind.u64 0, Value.int IntKind.u64 0] 26) = w4 at *
    generalize w3.heap.size = g at *
    with_reducible refine (HT.out _ hG4).mono ?_
    rintro e w5 ⟨⟨n5, b5, hb5, rfl⟩, hb⟩
    have hX := hX4.after hb
    replace hbel := bl_trans hbel4 hb
    clear hb HT hb5 hA hX4 hG4 hbel4
    have z0 := hX.frozen 0
    have z1 := hX.frozen 1
    have z2 := hX.frozen 2
    have z3 := hX.frozen 3
    obtain ⟨x0, x1, x2, x3, _⟩ := blk_pfx hX
    go_wp2_with fail
    obtain ⟨r0, r1, r2, r3, _⟩ := blk_pfx (v := false) (n := 0) (b := 0) ((((hX.put 0 (.bool false)).put 1 (.int .u64 0)).put 2 (.int .u64 0)).put 3 (.int .i64 0))
    refine bodyPost_ret (v := .tuple #[.agg #[.bool false, .int .u64 0, .int .u64 0, .int .i64 0], .int .i64 4]) (by simp [results, Tryd.results51, go_sem, r0, r1, r2, r3, hi_zero, lo_zero]) rfl ⟨by rw [HE.out], bl_⟩
  | some x =>
    obtain ⟨v, n⟩ := x
    rw [hpa] at HA
    rw [show parseV (some (v, n)) = .tuple #[.agg #[.bool v, .int .u64 (hi n), .int .u64 (lo n)], .int .i64 0] from rfl] at HA
    have hn := parseA_lt hpa
    clear hpa
    cases ha : atoiP q with
    | none =>
      have HE := Lib.hid pfxR_none
      have HT := Lib.hid (fun w hG => atoi_no ⟨q.toArray⟩ w hq hG (by rw [bts_mk]; exact atoiP_none ha))
      clear hq ha hn
      go_enter Tryd.func51, Tryd.ntmps51
      go_wp2_with fail
      have hX : Blk (w.alloc (Obj.cells #[.bool false, .int .u64 0, .int .u64 0, .int .i64 0] 43)) (w.heap.size) 43 (PfxC false 0 0) := (Blk.new' _ _ _ _ (by simp) : Blk (w.alloc (Obj.cells #[.bool false, .int .u64 0, .int .u64 0, .int .i64 0] 43)) (w.heap.size) 43 (PfxC false 0 0))
      have hbel : Below w.heap.size w (w.alloc (Obj.cells #[.bool false, .int .u64 0, .int .u64 0, .int .i64 0] 43)) := bl_
      replace hG := hG.after hbel
      have hsz : (w.alloc (Obj.cells #[.bool false, .int .u64 0, .int .u64 0, .int .i64 0] 43)).heap.size = w.heap.size + 1 := by simp
      generalize w.alloc (Obj.cells #[.bool false, .int .u64 0, .int .u64 0, .int .i64 0] 43) = w1 at *
      refine (HC.out _ hG).mono ?_
      rintro e w2 ⟨rfl, kd, rfl⟩
      have hb := below_drewN' w1 kd
      replace hX := hX.after hb
      replace hG := hG.after hb
      replace hbel := bl_trans hbel hb
      clear hb HC hsz
      generalize w1.drewN kd = w2 at *
      go_wp2_with fail
      refine (HA.out _ hG).mono ?_
      rintro e w3 ⟨rfl, hb⟩
      replace hX := hX.after hb
      replace hG := hG.after hb
      replace hbel := bl_trans hbel hb
      clear hb HA
      go_wp2_with fail
      have hA4 : Blk (w3.alloc (Obj.cells #[Value.bool v, Value.int IntKind.u64 (hi n), Value.int IntKind.u64 (lo n)] 26)) w3.heap.size 26 (AddrC v n) := Blk.new _ _ _
      have hg4 : w.heap.size < w3.heap.size := hX.lt
      have hX4 := hX.alloc (Obj.cells #[Value.bool v, Value.int IntKind.u64 (hi n), Value.int IntKind.u64 (lo n)] 26)
      have hG4 : Glob (w3.alloc (Obj.cells #[Value.bool v, Value.int IntKind.u64 (hi n), Value.int IntKind.u64 (lo n)] 26)) := hG.after bl_
      have hbel4 : Below w.heap.size w (w3.alloc (Obj.cells #[Value.bool v, Value.int IntKind.u64 (hi n), Value.int IntKind.u64 (lo n)] 26)) := bl_
      clear hX hG hbel
      generalize w3.alloc (Obj.cells #[Value.bool v, Value.int IntKind.u64 (hi n), Value.int IntKind.u64 (lo n)] 26) = w4 at *
      generalize w3.heap.size = g at *
      with_reducible refine (HT.out _ hG4).mono ?_
      rintro e w5 ⟨⟨n5, N5, rfl⟩, hb⟩
      have hX := hX4.after hb
      replace hbel := bl_trans hbel4 hb
      clear hb HT hA4 hX4 hG4 hbel4
      have z0 := hX.frozen 0
      have z1 := hX.frozen 1
      have z2 := hX.frozen 2
      have z3 := hX.frozen 3
      obtain ⟨x0, x1, x2, x3, _⟩ := blk_pfx hX
      go_wp2_with fail
      obtain ⟨r0, r1, r2, r3, _⟩ := blk_pfx (v := false) (n := 0) (b := 0) ((((hX.put 0 (.bool false)).put 1 (.int .u64 0)).put 2 (.int .u64 0)).put 3 (.int .i64 0))
      refine bodyPost_ret (v := .tuple #[.agg #[.bool false, .int .u64 0, .int .u64 0, .int .i64 0], .int .i64 4]) (by simp [results, Tryd.results51, go_sem, r0, r1, r2, r3, hi_zero, lo_zero]) rfl ⟨by rw [HE.out], bl_⟩
    | some k =>
      have ha := atoiP_some ha
      obtain ⟨hk0, hk1⟩ := Lib.atoiAll_bounds ha
      have HT := Lib.hid (fun w (_ : Glob w) => atoi_yes ⟨q.toArray⟩ k w hq (by rw [bts_mk]; exact ha))
      have HI := Lib.hid (fun w hG => itoaI_c k w hk0 hk1 hG)
      clear hq ha hk0 hk1
      by_cases hs : Lib.itoa k = q
      · have HR := Lib.hid (fun w => rightP_c v n k w hn)
        subst hs
        dsimp only
        rw [show (Lib.itoa k == Lib.itoa k) = true from beq_self_eq_true _]
        simp only [Bool.true_and]
        generalize Lib.itoa k = q at *
        unfold PfxV PfxC at HR
        cases hr : rightP v n k with
        | false =>
          rw [hr] at HR
          rw [if_neg (by simp)]
          have HE := Lib.hid pfxR_none
          clear hr hn
          go_enter Tryd.func51, Tryd.ntmps51
          go_wp2_with fail
          have hX : Blk (w.alloc (Obj.cells #[.bool false, .int .u64 0, .int .u64 0, .int .i64 0] 43)) (w.heap.size) 43 (PfxC false 0 0) := (Blk.new' _ _ _ _ (by simp) : Blk (w.alloc (Obj.cells #[.bool false, .int .u64 0, .int .u64 0, .int .i64 0] 43)) (w.heap.size) 43 (PfxC false 0 0))
          have hbel : Below w.heap.size w (w.alloc (Obj.cells #[.bool false, .int .u64 0, .int .u64 0, .int .i64 0] 43)) := bl_
          replace hG := hG.after hbel
          have hsz : (w.alloc (Obj.cells #[.bool false, .int .u64 0, .int .u64 0, .int .i64 0] 43)).heap.size = w.heap.size + 1 := by simp
          generalize w.alloc (Obj.cells #[.bool false, .int .u64 0, .int .u64 0, .int .i64 0] 43) = w1 at *
          refine (HC.out _ hG).mono ?_
          rintro e w2 ⟨rfl, kd, rfl⟩
          have hb := below_drewN' w1 kd
          replace hX := hX.after hb
          replace hG := hG.after hb
          replace hbel := bl_trans hbel hb
          clear hb HC hsz
          generalize w1.drewN kd = w2 at *
          go_wp2_with fail
          refine (HA.out _ hG).mono ?_
          rintro e w3 ⟨rfl, hb⟩
          replace hX := hX.after hb
          replace hG := hG.after hb
          replace hbel := bl_trans hbel hb
          clear hb HA
          go_wp2_with fail
          have hA4 : Blk (w3.alloc (Obj.cells #[Value.bool v, Value.int IntKind.u64 (hi n), Value.int IntKind.u64 (lo n)] 26)) w3.heap.size 26 (AddrC v n) := Blk.new _ _ _
          have hg4 : w.heap.size < w3.heap.size := hX.lt
          have hX4 := hX.alloc (Obj.cells #[Value.bool v, Value.int IntKind.u64 (hi n), Value.int IntKind.u64 (lo n)] 26)
          have hG4 : Glob (w3.alloc (Obj.cells #[Value.bool v, Value.int IntKind.u64 (hi n), Value.int IntKind.u64 (lo n)] 26)) := hG.after bl_
          have hbel4 : Below w.heap.size w (w3.alloc (Obj.cells #[Value.bool v, Value.int IntKind.u64 (hi n), Value.int IntKind.u64 (lo n)] 26)) := bl_
          clear hX hG hbel
          generalize w3.alloc (Obj.cells #[Value.bool v, Value.int IntKind.u64 (hi n), Value.int IntKind.u64 (lo n)] 26) = w4 at *
          generalize w3.heap.size = g at *
          with_reducible refine (HT.out _ hG4).mono ?_
          rintro e w5 ⟨rfl, hb⟩
          have hX := hX4.after hb
          have hA := hA4.after hb
          have hG := hG4.after hb
          replace hbel := bl_trans hbel4 hb
          clear hb HT hA4 hX4 hG4 hbel4
          go_wp2_with fail
          with_reducible refine (HI.out _ hG).mono ?_
          rintro e w6 ⟨rfl, hb⟩
          replace hX := hX.after hb
          replace hA := hA.after hb
          replace hG := hG.after hb
          replace hbel := bl_trans hbel hb
          clear hb HI
          obtain ⟨a0, a1, a2, _⟩ := blk_adr hA
          have az0 := hA.frozen 0
          have az1 := hA.frozen 1
          have az2 := hA.frozen 2
          go_wp2_with fail
          have hP : Blk (w6.alloc (Obj.cells #[Value.bool v, Value.int IntKind.u64 (hi n), Value.int IntKind.u64 (lo n), Value.int IntKind.i64 k] 43)) w6.heap.size 43 (PfxC v n k) := Blk.new _ _ _
          have hX7 := hX.alloc (Obj.cells #[Value.bool v, Value.int IntKind.u64 (hi n), Value.int IntKind.u64 (lo n), Value.int IntKind.i64 k] 43)
          have hbel7 : Below w.heap.size w (w6.alloc (Obj.cells #[Value.bool v, Value.int IntKind.u64 (hi n), Value.int IntKind.u64 (lo n), Value.int IntKind.i64 k] 43)) := bl_
          have hne : w.heap.size < w6.heap.size := hX.lt
          clear hX hG hbel hA a0 a1 a2 az0 az1 az2
          generalize w6.alloc (Obj.cells #[Value.bool v, Value.int IntKind.u64 (hi n), Value.int IntKind.u64 (lo n), Value.int IntKind.i64 k] 43) = w7 at *
          generalize w6.heap.size = g7 at *
          with_reducible refine (HR.out _).mono ?_
          rintro e w8 ⟨rfl, hb⟩
          have hX := hX7.after hb
          have hPP := hP.after hb
          replace hbel := bl_trans hbel7 hb
          clear hb HR hX7 hP hbel7
          obtain ⟨p0, p1, p2, p3, _⟩ := blk_pfx hPP
          have z0 := hX.frozen 0
          have z1 := hX.frozen 1
          have z2 := hX.frozen 2
          have z3 := hX.frozen 3
          obtain ⟨x0, x1, x2, x3, _⟩ := blk_pfx hX
          go_wp2_with fail
          obtain ⟨r0, r1, r2, r3, _⟩ := blk_pfx (v := false) (n := 0) (b := 0) ((((hX.put 0 (.bool false)).put 1 (.int .u64 0)).put 2 (.int .u64 0)).put 3 (.int .i64 0))
          refine bodyPost_ret (v := .tuple #[.agg #[.bool false, .int .u64 0, .int .u64 0, .int .i64 0], .int .i64 4]) (by simp [results, Tryd.results51, go_sem, r0, r1, r2, r3, hi_zero, lo_zero]) rfl ⟨by rw [HE.out], bl_⟩
        | true =>
          rw [hr] at HR
          rw [if_pos rfl]
          have HE := Lib.hid (pfxR_some v n k)
          clear hr hn
          go_enter Tryd.func51, Tryd.ntmps51
          go_wp2_with fail
          have hX : Blk (w.alloc (Obj.cells #[.bool false, .int .u64 0, .int .u64 0, .int .i64 0] 43)) (w.heap.size) 43 (PfxC false 0 0) := (Blk.new' _ _ _ _ (by simp) : Blk (w.alloc (Obj.cells #[.bool false, .int .u64 0, .int .u64 0, .int .i64 0] 43)) (w.heap.size) 43 (PfxC false 0 0))
          have hbel : Below w.heap.size w (w.alloc (Obj.cells #[.bool false, .int .u64 0, .int .u64 0, .int .i64 0] 43)) := bl_
          replace hG := hG.after hbel
          have hsz : (w.alloc (Obj.cells #[.bool false, .int .u64 0, .int .u64 0, .int .i64 0] 43)).heap.size = w.heap.size + 1 := by simp
          generalize w.alloc (Obj.cells #[.bool false, .int .u64 0, .int .u64 0, .int .i64 0] 43) = w1 at *
          refine (HC.out _ hG).mono ?_
          rintro e w2 ⟨rfl, kd, rfl⟩
          have hb := below_drewN' w1 kd
          replace hX := hX.after hb
          replace hG := hG.after hb
          replace hbel := bl_trans hbel hb
          clear hb HC hsz
          generalize w1.drewN kd = w2 at *
          go_wp2_with fail
          refine (HA.out _ hG).mono ?_
          rintro e w3 ⟨rfl, hb⟩
          replace hX := hX.after hb
          replace hG := hG.after hb
          replace hbel := bl_trans hbel hb
          clear hb HA
          go_wp2_with fail
          have hA4 : Blk (w3.alloc (Obj.cells #[Value.bool v, Value.int IntKind.u64 (hi n), Value.int IntKind.u64 (lo n)] 26)) w3.heap.size 26 (AddrC v n) := Blk.new _ _ _
          have hg4 : w.heap.size < w3.heap.size := hX.lt
          have hX4 := hX.alloc (Obj.cells #[Value.bool v, Value.int IntKind.u64 (hi n), Value.int IntKind.u64 (lo n)] 26)
          have hG4 : Glob (w3.alloc (Obj.cells #[Value.bool v, Value.int IntKind.u64 (hi n), Value.int IntKind.u64 (lo n)] 26)) := hG.after bl_
          have hbel4 : Below w.heap.size w (w3.alloc (Obj.cells #[Value.bool v, Value.int IntKind.u64 (hi n), Value.int IntKind.u64 (lo n)] 26)) := bl_
          clear hX hG hbel
          generalize w3.alloc (Obj.cells #[Value.bool v, Value.int IntKind.u64 (hi n), Value.int IntKind.u64 (lo n)] 26) = w4 at *
          generalize w3.heap.size = g at *
          with_reducible refine (HT.out _ hG4).mono ?_
          rintro e w5 ⟨rfl, hb⟩
          have hX := hX4.after hb
          have hA := hA4.after hb
          have hG := hG4.after hb
          replace hbel := bl_trans hbel4 hb
          clear hb HT hA4 hX4 hG4 hbel4
          go_wp2_with fail
          with_reducible refine (HI.out _ hG).mono ?_
          rintro e w6 ⟨rfl, hb⟩
          replace hX := hX.after hb
          replace hA := hA.after hb
          replace hG := hG.after hb
          replace hbel := bl_trans hbel hb
          clear hb HI
          obtain ⟨a0, a1, a2, _⟩ := blk_adr hA
          have az0 := hA.frozen 0
          have az1 := hA.frozen 1
          have az2 := hA.frozen 2
          go_wp2_with fail
          have hP : Blk (w6.alloc (Obj.cells #[Value.bool v, Value.int IntKind.u64 (hi n), Value.int IntKind.u64 (lo n), Value.int IntKind.i64 k] 43)) w6.heap.size 43 (PfxC v n k) := Blk.new _ _ _
          have hX7 := hX.alloc (Obj.cells #[Value.bool v, Value.int IntKind.u64 (hi n), Value.int IntKind.u64 (lo n), Value.int IntKind.i64 k] 43)
          have hbel7 : Below w.heap.size w (w6.alloc (Obj.cells #[Value.bool v, Value.int IntKind.u64 (hi n), Value.int IntKind.u64 (lo n), Value.int IntKind.i64 k] 43)) := bl_
          have hne : w.heap.size < w6.heap.size := hX.lt
          clear hX hG hbel hA a0 a1 a2 az0 az1 az2
          generalize w6.alloc (Obj.cells #[Value.bool v, Value.int IntKind.u64 (hi n), Value.int IntKind.u64 (lo n), Value.int IntKind.i64 k] 43) = w7 at *
          generalize w6.heap.size = g7 at *
          with_reducible refine (HR.out _).mono ?_
          rintro e w8 ⟨rfl, hb⟩
          have hX := hX7.after hb
          have hPP := hP.after hb
          replace hbel := bl_trans hbel7 hb
          clear hb HR hX7 hP hbel7
          obtain ⟨p0, p1, p2, p3, _⟩ := blk_pfx hPP
          have z0 := hX.frozen 0
          have z1 := hX.frozen 1
          have z2 := hX.frozen 2
          have z3 := hX.frozen 3
          obtain ⟨x0, x1, x2, x3, _⟩ := blk_pfx hX
          go_wp2_with fail
          obtain ⟨r0, r1, r2, r3, _⟩ := blk_pfx (v := v) (n := n) (b := k) ((((hX.put 0 (.bool v)).put 1 (.int .u64 (hi n))).put 2 (.int .u64 (lo n))).put 3 (.int .i64 k))
          refine bodyPost_ret (v := .tuple #[.agg #[.bool v, .int .u64 (hi n), .int .u64 (lo n), .int .i64 k], .int .i64 0]) (by simp [results, Tryd.results51, go_sem, r0, r1, r2, r3]) rfl ⟨by rw [HE.out], bl_⟩
      · have hn' := hn
        dsimp only
        have hqq : (Lib.itoa k == q) = false := beq_eq_false_iff_ne.mpr hs
        rw [hqq]
        simp only [Bool.false_and]
        rw [if_neg (by simp)]
        have HE := Lib.hid pfxR_none
        have hd := hqq
        clear hqq hs hn
        go_enter Tryd.func51, Tryd.ntmps51
        go_wp2_with fail
        have hX : Blk (w.alloc (Obj.cells #[.bool false, .int .u64 0, .int .u64 0, .int .i64 0] 43)) (w.heap.size) 43 (PfxC false 0 0) := (Blk.new' _ _ _ _ (by simp) : Blk (w.alloc (Obj.cells #[.bool false, .int .u64 0, .int .u64 0, .int .i64 0] 43)) (w.heap.size) 43 (PfxC false 0 0))
        have hbel : Below w.heap.size w (w.alloc (Obj.cells #[.bool false, .int .u64 0, .int .u64 0, .int .i64 0] 43)) := bl_
        replace hG := hG.after hbel
        have hsz : (w.alloc (Obj.cells #[.bool false, .int .u64 0, .int .u64 0, .int .i64 0] 43)).heap.size = w.heap.size + 1 := by simp
        generalize w.alloc (Obj.cells #[.bool false, .int .u64 0, .int .u64 0, .int .i64 0] 43) = w1 at *
        refine (HC.out _ hG).mono ?_
        rintro e w2 ⟨rfl, kd, rfl⟩
        have hb := below_drewN' w1 kd
        replace hX := hX.after hb
        replace hG := hG.after hb
        replace hbel := bl_trans hbel hb
        clear hb HC hsz
        generalize w1.drewN kd = w2 at *
        go_wp2_with fail
        refine (HA.out _ hG).mono ?_
        rintro e w3 ⟨rfl, hb⟩
        replace hX := hX.after hb
        replace hG := hG.after hb
        replace hbel := bl_trans hbel hb
        clear hb HA
        go_wp2_with fail
        have hA4 : Blk (w3.alloc (Obj.cells #[Value.bool v, Value.int IntKind.u64 (hi n), Value.int IntKind.u64 (lo n)] 26)) w3.heap.size 26 (AddrC v n) := Blk.new _ _ _
        have hg4 : w.heap.size < w3.heap.size := hX.lt
        have hX4 := hX.alloc (Obj.cells #[Value.bool v, Value.int IntKind.u64 (hi n), Value.int IntKind.u64 (lo n)] 26)
        have hG4 : Glob (w3.alloc (Obj.cells #[Value.bool v, Value.int IntKind.u64 (hi n), Value.int IntKind.u64 (lo n)] 26)) := hG.after bl_
        have hbel4 : Below w.heap.size w (w3.alloc (Obj.cells #[Value.bool v, Value.int IntKind.u64 (hi n), Value.int IntKind.u64 (lo n)] 26)) := bl_
        clear hX hG hbel
        generalize w3.alloc (Obj.cells #[Value.bool v, Value.int IntKind.u64 (hi n), Value.int IntKind.u64 (lo n)] 26) = w4 at *
        generalize w3.heap.size = g at *
        with_reducible refine (HT.out _ hG4).mono ?_
        rintro e w5 ⟨rfl, hb⟩
        have hX := hX4.after hb
        have hA := hA4.after hb
        have hG := hG4.after hb
        replace hbel := bl_trans hbel4 hb
        clear hb HT hA4 hX4 hG4 hbel4
        go_wp2_with fail
        with_reducible refine (HI.out _ hG).mono ?_
        rintro e w6 ⟨rfl, hb⟩
        replace hX := hX.after hb
        replace hA := hA.after hb
        replace hG := hG.after hb
        replace hbel := bl_trans hbel hb
        clear hb HI hA hG
        have z0 := hX.frozen 0
        have z1 := hX.frozen 1
        have z2 := hX.frozen 2
        have z3 := hX.frozen 3
        obtain ⟨x0, x1, x2, x3, _⟩ := blk_pfx hX
        go_wp2_with fail
        obtain ⟨r0, r1, r2, r3, _⟩ := blk_pfx (v := false) (n := 0) (b := 0) ((((hX.put 0 (.bool false)).put 1 (.int .u64 0)).put 2 (.int .u64 0)).put 3 (.int .i64 0))
        refine bodyPost_ret (v := .tuple #[.agg #[.bool false, .int .u64 0, .int .u64 0, .int .i64 0], .int .i64 4]) (by simp [results, Tryd.results51, go_sem, r0, r1, r2, r3, hi_zero, lo_zero]) rfl ⟨by rw [HE.out], bl_⟩
end Go.Proofs.YtgdgklibilddgaaDoor

namespace Go.Proofs.YtgdgklibilddgaaDoor
open Go.RowKit

def prefix_Parse.f (a0 : ByteArray) : Option (Bool × Int × Int × Int × Int) := if decide (a0.size ≤ 1000000) = true then some ((pfxP (parsePfx (bts a0))).1, hi (pfxP (parsePfx (bts a0))).2.1, lo (pfxP (parsePfx (bts a0))).2.1, (pfxP (parsePfx (bts a0))).2.2.1, (pfxP (parsePfx (bts a0))).2.2.2) else none
theorem prefix_Parse.calls (a0 : ByteArray) (r1 : Bool) (r2 r3 r4 r5 : Int) (w : World) (hG : Glob w) (h : prefix_Parse.f a0 = some (r1, r2, r3, r4, r5)) :
    Calls Tryd.prog 51 #[.string a0] w fun e w' => e = .returned (.tuple #[.agg #[.bool r1, .int .u64 r2, .int .u64 r3, .int .i64 r4], .int .i64 r5]) ∧ Below w.heap.size w w' := by
  unfold prefix_Parse.f at h
  obtain ⟨hg, h⟩ := some_if h
  simp only [Prod.mk.injEq] at h
  obtain ⟨rfl, rfl, rfl, rfl, rfl⟩ := h
  exact ppfx_c a0 w (of_decide_eq_true hg) hG
def strconv_Itoa.f (a0 : Int) : Option ByteArray := if (decide (-9223372036854775808 ≤ a0) && decide (a0 ≤ 9223372036854775807)) = true then some (⟨(Lib.itoa a0).toArray⟩ : ByteArray) else none
theorem strconv_Itoa.calls (a0 : Int) (r : ByteArray) (w : World) (hG : Glob w) (h : strconv_Itoa.f a0 = some r) :
    Calls Tryd.prog 57 #[.int .i64 a0] w fun e w' => e = .returned (.string r) ∧ Below w.heap.size w w' := by
  unfold strconv_Itoa.f at h
  obtain ⟨hg, h⟩ := some_if h
  simp only [Bool.and_eq_true] at hg
  subst h
  exact itoaI_c a0 w (of_decide_eq_true hg.1) (of_decide_eq_true hg.2) hG
end Go.Proofs.YtgdgklibilddgaaDoor

namespace Go.Proofs.YtgdgklibilddgaaDoor
open Go.RowKit Go.Proofs.YtgdgklibilddgaaDoorW.PrintWords Go.Proofs.YtgdgklibilddgaaDoorW.PrintLast

/-- a block that is known, behind steps that leave it -/
theorem pk_ {w W : World} {g : Nat} {o : Obj} (h : Aside0 (w.heap[g]? = some o)) (k : w.heap[g]? = some o → W.heap[g]? = some o := by intro h_; (with_reducible repeat (first | refine blk_drewN ?_ _ | refine blk_drew ?_ | refine blk_alloc ?_ _)); exact h_) : W.heap[g]? = some o := k h.out
/-- what was there at the beginning, behind steps that leave it -/
theorem pb_ {w0 w W : World} (h : Aside0 (Below w0.heap.size w0 w)) (k : Below w0.heap.size w0 w → Below w0.heap.size w0 W := by intro h_; repeat (first | (with_reducible first | exact h_ | apply below_alloc | apply pw_below_drewN | apply below_drew1 | (refine below_set ?_ (Aside0.out ?_); rotate_left; assumption)) | exact h_)) : Below w0.heap.size w0 W := k h.out
theorem pw_ {w W : World} {g : Nat} {o : Obj} (h : w.heap[g]? = some o) (k : w.heap[g]? = some o → W.heap[g]? = some o := by intro h_; (with_reducible repeat (first | refine blk_drewN ?_ _ | refine blk_drew ?_ | refine blk_alloc ?_ _)); exact h_) : W.heap[g]? = some o := k h
theorem bb_ {w W w2 : World} {g : Nat} {o : Obj} (h : Aside0 (w.heap[g]? = some o)) (hb : Below W.heap.size W w2) (k : w.heap[g]? = some o → W.heap[g]? = some o := by intro h_; (with_reducible repeat (first | refine blk_drewN ?_ _ | refine blk_drew ?_ | refine blk_alloc ?_ _)); exact h_) : Aside0 (w2.heap[g]? = some o) := ⟨blk_below (k h.out) hb⟩
theorem bs_ {w0 w W w2 : World} (h : Aside0 (Below w0.heap.size w0 w)) (hb : Below W.heap.size W w2) (k : Below w0.heap.size w0 w → Below w0.heap.size w0 W := by intro h_; repeat (first | (with_reducible first | exact h_ | apply below_alloc | apply pw_below_drewN | apply below_drew1 | (refine below_set ?_ (Aside0.out ?_); rotate_left; assumption)) | exact h_)) : Aside0 (Below w0.heap.size w0 w2) := ⟨below_step (k h.out) hb⟩
theorem gw_ {w0 w W : World} {g : Nat} (h : Aside0 (Below w0.heap.size w0 w)) (hg : g = W.heap.size) (k : Below w0.heap.size w0 w → Below w0.heap.size w0 W := by intro h_; repeat (first | (with_reducible first | exact h_ | apply below_alloc | apply pw_below_drewN | apply below_drew1 | (refine below_set ?_ (Aside0.out ?_); rotate_left; assumption)) | exact h_)) : Aside0 (w0.heap.size ≤ g) := ⟨hg ▸ below_size (k h.out)⟩
theorem nl_ {w W : World} {g g2 : Nat} {o : Obj} (h : Aside0 (w.heap[g]? = some o)) (hg : g2 = W.heap.size) (k : w.heap[g]? = some o → W.heap[g]? = some o := by intro h_; (with_reducible repeat (first | refine blk_drewN ?_ _ | refine blk_drew ?_ | refine blk_alloc ?_ _)); exact h_) : Aside0 (g ≠ g2) := ⟨by rw [hg]; exact Nat.ne_of_lt (blk_lt (k h.out))⟩
theorem ng_ {w W : World} {g g2 : Nat} {o : Obj} (h : Aside0 (w.heap[g]? = some o)) (hg : g2 = W.heap.size) (k : w.heap[g]? = some o → W.heap[g]? = some o := by intro h_; (with_reducible repeat (first | refine blk_drewN ?_ _ | refine blk_drew ?_ | refine blk_alloc ?_ _)); exact h_) : Aside0 (g2 ≠ g) := ⟨by rw [hg]; exact Nat.ne_of_gt (blk_lt (k h.out))⟩
theorem c2_ {w : World} {g : Nat} {t : TypeId} {a b : Value} (h : Aside0 (w.heap[g]? = some (.cells #[a, b] t (0, 0)))) : w.cell? ⟨g, 0, none⟩ = some a ∧ w.cell? ⟨g, 1, none⟩ = some b ∧ w.frozen? ⟨g, 0, none⟩ = false ∧ w.frozen? ⟨g, 1, none⟩ = false :=
  ⟨(blk_cell h.out 0).trans rfl, (blk_cell h.out 1).trans rfl, blk_frozen h.out 0, blk_frozen h.out 1⟩
theorem c3_ {w : World} {g : Nat} {t : TypeId} {a b c : Value} (h : Aside0 (w.heap[g]? = some (.cells #[a, b, c] t (0, 0)))) : w.cell? ⟨g, 0, none⟩ = some a ∧ w.cell? ⟨g, 1, none⟩ = some b ∧ w.cell? ⟨g, 2, none⟩ = some c ∧ w.frozen? ⟨g, 0, none⟩ = false ∧ w.frozen? ⟨g, 1, none⟩ = false ∧ w.frozen? ⟨g, 2, none⟩ = false :=
  ⟨(blk_cell h.out 0).trans rfl, (blk_cell h.out 1).trans rfl, (blk_cell h.out 2).trans rfl, blk_frozen h.out 0, blk_frozen h.out 1, blk_frozen h.out 2⟩
theorem c4_ {w : World} {g : Nat} {t : TypeId} {a b c d : Value} (h : Aside0 (w.heap[g]? = some (.cells #[a, b, c, d] t (0, 0)))) : w.cell? ⟨g, 0, none⟩ = some a ∧ w.cell? ⟨g, 1, none⟩ = some b ∧ w.cell? ⟨g, 2, none⟩ = some c ∧ w.cell? ⟨g, 3, none⟩ = some d ∧ w.frozen? ⟨g, 0, none⟩ = false ∧ w.frozen? ⟨g, 1, none⟩ = false ∧ w.frozen? ⟨g, 2, none⟩ = false ∧ w.frozen? ⟨g, 3, none⟩ = false :=
  ⟨(blk_cell h.out 0).trans rfl, (blk_cell h.out 1).trans rfl, (blk_cell h.out 2).trans rfl, (blk_cell h.out 3).trans rfl, blk_frozen h.out 0, blk_frozen h.out 1, blk_frozen h.out 2, blk_frozen h.out 3⟩
section
variable {P : Program} {ops : Array Oper} {Q : Exit → Act → World → Prop} {md : Region.Mode} {S : World → Prop} {ds : List Nat}
theorem gl_ {rest : List Oper} {oi : Oper} {a : Act} {w : World} (N : Option Tmp) {f : FuncId} {fn : Func} {xs : Array Operand} {ts : Array TypeId} (hf : P.funcs[f]? = some fn) (args : Array Value)
    (h : Calls P f args w fun e w' => ∃ v, e = .returned v ∧ wpList P ops Q rest (a.put N v) w')
    (hop : oi.op = .call { callee := .value (.func f), args := xs, argTypes := ts } := by rfl) (hargs : xs.map a.eval = args := by (try simp only [List.map_toArray, List.map_cons, List.map_nil]); first | done | rfl | (simp only [List.length_drop, List.length_take]; rfl))
    (hd : oi.dst = N := by rfl) (hg : oi.guard = none := by rfl) (hname : (fn.name == "runtime.NumGoroutine") = false := by kernel_rfl) (hb : fn.body.isSome = true := by rfl) : wpList P ops Q (oi :: rest) a w :=
  goesL_ N hd hg hf hname hb args hop hargs h
theorem gr_ {oi : Oper} {N : Option Tmp} {a : Act} {w : World} {K : Act → World → Prop} {f : FuncId} {fn : Func} {xs : Array Operand} {ts : Array TypeId} (hf : P.funcs[f]? = some fn) (args : Array Value)
    (h : Calls P f args w fun e w' => ∃ v, e = .returned v ∧ K (a.put N v) w')
    (hw : Region.wanted oi (yielded ops a.tmps) = true := by rfl) (hN : oi.dst = N := by rfl) (hop : oi.op = .call { callee := .value (.func f), args := xs, argTypes := ts } := by rfl) (hargs : xs.map a.eval = args := by (try simp only [List.map_toArray, List.map_cons, List.map_nil]); first | done | rfl | (simp only [List.length_drop, List.length_take]; rfl))
    (hname : (fn.name == "runtime.NumGoroutine") = false := by kernel_rfl) (hb : fn.body.isSome = true := by rfl) : if Region.wanted oi (yielded ops a.tmps) = true then Oper.wp P oi a w K Q else K (a.put N undef) w :=
  goes_ hf hname hb args hw hN hop hargs h
theorem bx_ {rest : List Oper} {o : Oper} {a : Act} {W : World} (N : Tmp) (cs : Array Value) (t : TypeId)
    (h : ∀ g, g = W.heap.size → ∀ w1, w1.heap[g]? = some (.cells cs t (0, 0)) → Below W.heap.size W w1 → wpList P ops Q rest (a.put o.dst (.pointer (some ⟨g, 0, none⟩))) w1)
    (hd : o.dst = some N := by rfl) (hgd : o.guard = none := by rfl) (hrun : (execOp a.eval o).run P W = .ok (.value (.pointer (some ⟨W.heap.size, 0, none⟩))) (W.alloc (.cells cs t (0, 0))) := by first | (go_simp; done) | (go_simp; rfl)) : wpList P ops Q (o :: rest) a W :=
  box_event hgd hd hrun h
/-- what has come up, as a number's bits -/
def bm_ (n m : Nat) : Array Bool := ((List.range n).map fun i => m.testBit i).toArray
theorem pu_ {T : Bool × List (List Nat × List Nat)} {oi : Oper} {v : Value} {fuel : Nat} {l : Array Bool} {a a' : Act} {w : World} (i : Nat) (N : Option Tmp) (l' : Array Bool) (hi : ops[i]? = some oi) (hT : Aside0 (rtab md ops = T))
    (hy : Region.wanted oi (yielded ops a.tmps) = true ∧ ∀ w, (execOp a.eval oi).run P w = .ok (.value v) w) (h : wpAnyLast P md ops Q S ds fuel l' a' w)
    (ha : a.put N v = a' := by simp only [Act.put, List.setIfInBounds_toArray, List.set_cons_zero, List.set_cons_succ, i64_w, i32_w]; rfl) (hN : oi.dst = N := by rfl) (hc : anyT T l.toList l'.toList i = true := by kernel_rfl)
    (hQ : ∀ c a w, Q (.panic c) (a.put oi.dst v) w → Q (.panic c) a w := by exact fun _ _ _ h => h) : wpAnyLast P md ops Q S ds (fuel + 1) l a w :=
  pure_ (i := i) (N := N) l' hi hN (any_of hT.out hc) hQ (.inl hy) ha h
theorem ta_ {T : Bool × List (List Nat × List Nat)} {B : List Nat} {oi : Oper} {v : Value} {fuel : Nat} {l : Array Bool} {a a' : Act} {w : World} (i : Nat) (N : Option Tmp) (l' : Array Bool) (hi : ops[i]? = some oi) (hT : Aside0 (rtab md ops = T)) (hB : Aside0 (waitsOk T.2 B = true))
    (hy : Region.wanted oi (yielded ops a.tmps) = true ∧ ∀ w, S w → (execOp a.eval oi).run P w = .ok (.value v) w) (hS : S w) (h : wpAnyLast P md ops Q S ds fuel l' a' w)
    (ha : a.put N v = a' := by simp only [Act.put, List.setIfInBounds_toArray, List.set_cons_zero, List.set_cons_succ, i64_w, i32_w]; rfl) (hN : oi.dst = N := by rfl) (hc : takeW T B ds l.toList l'.toList i = true := by kernel_rfl)
    (hQ : ∀ c a w, Q (.panic c) (a.put oi.dst v) w → Q (.panic c) a w := by exact fun _ _ _ h => h) : wpAnyLast P md ops Q S ds (fuel + 1) l a w :=
  take_ (i := i) (N := N) l' hi hN (take_ofW hT.out hB.out hc) hQ (.inl hy) hS ha h
end
theorem kc_ {w : World} {g : Nat} {t : TypeId} {cs : Array Value} {v : Value} (h : Aside0 (w.heap[g]? = some (.cells cs t (0, 0)))) (i : Nat) (hv : cs[i]? = some v := by rfl) : w.cell? ⟨g, i, none⟩ = some v := (blk_cell h.out i).trans hv
end Go.Proofs.YtgdgklibilddgaaDoor

namespace Go.Proofs.YtgdgklibilddgaaDoor.PPr
open Go.RowKit Go.Proofs.YtgdgklibilddgaaDoorW.PrintWords Go.Proofs.YtgdgklibilddgaaDoorW.PrintLast Go.Proofs.YtgdgklibilddgaaDoorW.PrintMore
attribute [local go_sem] max2_int min2_int max_two min_two max_three min_three max_four min_four   -- for this text's walks alone



def errW : Option Int → Value
  | none => .nilIface
  | some c => .iface 0 (.int .i64 c)
theorem errW_none : errW none = .nilIface := rfl
theorem errW_some (c : Int) : errW (some c) = .iface 0 (.int .i64 c) := rfl

end Go.Proofs.YtgdgklibilddgaaDoor.PPr

namespace Go.Proofs.YtgdgklibilddgaaDoor.PPr
open Go.RowKit Go.Proofs.YtgdgklibilddgaaDoorW.PrintWords Go.Proofs.YtgdgklibilddgaaDoorW.PrintLast Go.Proofs.YtgdgklibilddgaaDoorW.PrintMore
attribute [local go_sem] max2_int min2_int max_two min_two max_three min_three max_four min_four   -- for this text's walks alone

theorem eqA24 (d : Nat) (w : World) (x0 y0 : Int) (x1 y1 : Int) :
    (Op.equalIn (d + 2) 24 (.agg #[.int .u64 x0, .int .u64 x1]) (.agg #[.int .u64 y0, .int .u64 y1])).run Tryd.prog w = .ok (x0 == y0 && (x1 == y1)) w := by
  refine eqA_of Tryd.underlying24 (by kernel_rfl) ?_
  refine eqf_cons (by rfl) (by go_simp; rfl) (by go_simp; rfl) (by go_simp) ?_
  exact eqf_last (by rfl) (by go_simp; rfl) (by go_simp; rfl) (by go_simp)
theorem eqA26 (d : Nat) (w : World) (x0 y0 : Bool) (x1 y1 : Int) (x2 y2 : Int) :
    (Op.equalIn (d + 3) 26 (.agg #[.bool x0, .int .u64 x1, .int .u64 x2]) (.agg #[.bool y0, .int .u64 y1, .int .u64 y2])).run Tryd.prog w = .ok (x0 == y0 && ((x1 == y1 && (x2 == y2)))) w := by
  refine eqA_of Tryd.underlying26 (by kernel_rfl) ?_
  refine eqf_cons (by rfl) (by go_simp; rfl) (by go_simp; rfl) (by go_simp) ?_
  exact eqf_last (by rfl) (by go_simp) (by go_simp) (eqA24 (d + 0) w _ _ _ _)
theorem eqA43 (d : Nat) (w : World) (x0 y0 : Bool) (x1 y1 : Int) (x2 y2 : Int) (x3 y3 : Int) :
    (Op.equalIn (d + 4) 43 (.agg #[.bool x0, .int .u64 x1, .int .u64 x2, .int .i64 x3]) (.agg #[.bool y0, .int .u64 y1, .int .u64 y2, .int .i64 y3])).run Tryd.prog w = .ok ((x0 == y0 && ((x1 == y1 && (x2 == y2)))) && (x3 == y3)) w := by
  refine eqA_of Tryd.underlying43 (by kernel_rfl) ?_
  refine eqf_cons (by rfl) (by go_simp) (by go_simp) (eqA26 (d + 0) w _ _ _ _ _ _) ?_
  exact eqf_last (by rfl) (by go_simp; rfl) (by go_simp; rfl) (by go_simp)
end Go.Proofs.YtgdgklibilddgaaDoor.PPr

namespace Go.Proofs.YtgdgklibilddgaaDoor.PPr
open Go.RowKit Go.Proofs.YtgdgklibilddgaaDoorW.PrintWords Go.Proofs.YtgdgklibilddgaaDoorW.PrintLast Go.Proofs.YtgdgklibilddgaaDoorW.PrintMore
attribute [local go_sem] max2_int min2_int max_two min_two max_three min_three max_four min_four   -- for this text's walks alone

def num_Of.f (a0 : Int) : Option (Int × Int) := some (0, a0)
set_option maxHeartbeats 8000000 in
set_option maxRecDepth 100000 in
theorem num_Of.calls (a0 : Int) (r1 : Int) (r2 : Int) (w : World) (h : num_Of.f a0 = some (r1, r2)) :
  Calls Tryd.prog 43 #[.int .u64 a0] w fun e w' => e = .returned (.agg #[.int .u64 r1, .int .u64 r2]) ∧ Below w.heap.size w w' := by
 have hu24 := Tryd.underlying24
 have HB := Aside0.mk (Below.refl w.heap.size w)
 have H : (some (0, a0)) = some (r1, r2) := h
 clear h
 simp only [Option.some.injEq, Prod.mk.injEq] at H
 obtain ⟨rfl, rfl⟩ := H
 go_enter Tryd.func43, Tryd.ntmps43
 go_wp2_with (first | ((with_reducible refine gate_dst (N := 2) rfl ?_); refine bx_ 2 #[.int .u64 0, .int .u64 0] 24 ?_; intro gb101 hg w2 hbox hb; have BK101 := Aside0.mk (hbox); have GW101 := gw_ HB hg; have GE101 := gw_ HB hg; replace HB := bs_ HB hb; clear hb hbox hg; obtain ⟨hcz3_0, hcz3_1, hfz3_0, hfz3_1⟩ := c2_ BK101))
 refine bodyPost_ret (results_cell_row rfl _ _ gb101 24 #[.int .u64 0, .int .u64 a0] (0, 0) _ rfl (by refine pw_ ?_; refine blk_put (cs := #[.int .u64 0, .int .u64 0]) ?_ 1 _ rfl; refine pw_ ?_; refine blk_put (cs := #[.int .u64 0, .int .u64 0]) ?_ 0 _ rfl; refine pw_ ?_; exact BK101.out) Tryd.underlying24 rfl (by kernel_rfl)) rfl ?_
 exact ⟨by first | rfl | (simp [errW_none, errW_some] <;> rfl) | (simp [*, errW_none, errW_some] <;> rfl), pb_ HB⟩

def prefix_Halves.f (a0_0 : Bool) (a0_1 : Int) (a0_2 : Int) (a0_3 : Int) : Option (Bool × Int × Int × Int × Bool × Int × Int × Int × Int) := (addr_Width.f a0_0 a0_1 a0_2).bind fun t105 => ((prefix_Right.f a0_0 a0_1 a0_2 a0_3).bind fun t106 => (if t106 = true then (if a0_3 = t105 then (some (false, 0, 0, 0, false, 0, 0, 0, 11)) else ((num_Of.f 1).bind fun bt109 => ((num_Shl.f bt109.1 bt109.2 (wrap64 (t105 - (wrap64 (a0_3 + 1))))).bind fun bt111 => ((num_Or.f a0_1 a0_2 bt111.1 bt111.2).bind fun bt113 => (some (a0_0, a0_1, a0_2, wrap64 (a0_3 + 1), a0_0, bt113.1, bt113.2, wrap64 (a0_3 + 1), 0)))))) else (some (false, 0, 0, 0, false, 0, 0, 0, 1))))
def prefix_Halves.T9 : Bool × List (List Nat × List Nat) := (true, [([], []), ([0], [0]), ([1], [1]), ([], []), ([], []), ([], []), ([5], [5]), ([4, 6], [4, 6]), ([3, 7, 3], [3, 7]), ([2, 8, 8], [2, 8]), ([0, 1, 2, 3, 4, 5, 6, 7, 8, 9], []), ([10, 0, 1, 2, 3, 4, 5, 6, 7, 8, 9], [10]), ([11, 9, 9, 0, 1, 2, 3, 4, 5, 6, 7, 8, 9], [9, 11])])
def prefix_Halves.B9 : List Nat := [0, 1, 3, 0, 0, 0, 32, 112, 248, 511, 1023, 2047, 4095]
theorem prefix_Halves.tab9 : rtab .any (opsOf Tryd.f52 9) = prefix_Halves.T9 := by kernel_rfl
theorem prefix_Halves.bits9 : waitsOk prefix_Halves.T9.2 prefix_Halves.B9 = true := by kernel_rfl
set_option maxHeartbeats 8000000 in
set_option maxRecDepth 100000 in
theorem prefix_Halves.calls (a0_0 : Bool) (a0_1 : Int) (a0_2 : Int) (a0_3 : Int) (r1 : Bool) (r2 : Int) (r3 : Int) (r4 : Int) (r5 : Bool) (r6 : Int) (r7 : Int) (r8 : Int) (r9 : Int) (w : World) (h : prefix_Halves.f a0_0 a0_1 a0_2 a0_3 = some (r1, r2, r3, r4, r5, r6, r7, r8, r9)) :
  Calls Tryd.prog 52 #[.agg #[.bool a0_0, .int .u64 a0_1, .int .u64 a0_2, .int .i64 a0_3]] w fun e w' => e = .returned (.tuple #[.agg #[.bool r1, .int .u64 r2, .int .u64 r3, .int .i64 r4], .agg #[.bool r5, .int .u64 r6, .int .u64 r7, .int .i64 r8], .int .i64 r9]) ∧ Below w.heap.size w w' := by
 have hu43 := Tryd.underlying43
 have hu26 := Tryd.underlying26
 have hu24 := Tryd.underlying24
 have HB := Aside0.mk (Below.refl w.heap.size w)
 have H : ((addr_Width.f a0_0 a0_1 a0_2).bind fun t105 => ((prefix_Right.f a0_0 a0_1 a0_2 a0_3).bind fun t106 => (if t106 = true then (if a0_3 = t105 then (some (false, 0, 0, 0, false, 0, 0, 0, 11)) else ((num_Of.f 1).bind fun bt109 => ((num_Shl.f bt109.1 bt109.2 (wrap64 (t105 - (wrap64 (a0_3 + 1))))).bind fun bt111 => ((num_Or.f a0_1 a0_2 bt111.1 bt111.2).bind fun bt113 => (some (a0_0, a0_1, a0_2, wrap64 (a0_3 + 1), a0_0, bt113.1, bt113.2, wrap64 (a0_3 + 1), 0)))))) else (some (false, 0, 0, 0, false, 0, 0, 0, 1))))) = some (r1, r2, r3, r4, r5, r6, r7, r8, r9) := h
 clear h
 replace H := Option.bind_eq_some_iff.mp H
 obtain ⟨t105, A20, H⟩ := H
 replace H : ((prefix_Right.f a0_0 a0_1 a0_2 a0_3).bind fun t106 => (if t106 = true then (if a0_3 = t105 then (some (false, 0, 0, 0, false, 0, 0, 0, 11)) else ((num_Of.f 1).bind fun bt109 => ((num_Shl.f bt109.1 bt109.2 (wrap64 (t105 - (wrap64 (a0_3 + 1))))).bind fun bt111 => ((num_Or.f a0_1 a0_2 bt111.1 bt111.2).bind fun bt113 => (some (a0_0, a0_1, a0_2, wrap64 (a0_3 + 1), a0_0, bt113.1, bt113.2, wrap64 (a0_3 + 1), 0)))))) else (some (false, 0, 0, 0, false, 0, 0, 0, 1)))) = some (r1, r2, r3, r4, r5, r6, r7, r8, r9) := H
 have A2 := Aside0.mk A20
 clear A20
 replace H := Option.bind_eq_some_iff.mp H
 obtain ⟨t106, A30, H⟩ := H
 replace H : (if t106 = true then (if a0_3 = t105 then (some (false, 0, 0, 0, false, 0, 0, 0, 11)) else ((num_Of.f 1).bind fun bt109 => ((num_Shl.f bt109.1 bt109.2 (wrap64 (t105 - (wrap64 (a0_3 + 1))))).bind fun bt111 => ((num_Or.f a0_1 a0_2 bt111.1 bt111.2).bind fun bt113 => (some (a0_0, a0_1, a0_2, wrap64 (a0_3 + 1), a0_0, bt113.1, bt113.2, wrap64 (a0_3 + 1), 0)))))) else (some (false, 0, 0, 0, false, 0, 0, 0, 1))) = some (r1, r2, r3, r4, r5, r6, r7, r8, r9) := H
 have A3 := Aside0.mk A30
 clear A30
 by_cases c4 : t106 = true
 ·
  subst c4
  rw [if_pos rfl] at H
  by_cases c5 : a0_3 = t105
  ·
   rw [if_pos c5] at H
   have c5b0 : (a0_3 == t105) = true := beq_iff_eq.mpr c5
   have c5b1 : (a0_3 != t105) = false := bne_eq_false_iff_eq.mpr c5
   clear c5
   simp only [Option.some.injEq, Prod.mk.injEq] at H
   obtain ⟨rfl, rfl, rfl, rfl, rfl, rfl, rfl, rfl, rfl⟩ := H
   go_enter Tryd.func52, Tryd.ntmps52
   go_wp2_with (first | ((with_reducible refine gate_dst (N := 1) rfl ?_); refine bx_ 1 #[.bool a0_0, .int .u64 a0_1, .int .u64 a0_2, .int .i64 a0_3] 43 ?_; intro gb102 hg w6 hbox hb; have BK102 := Aside0.mk (hbox); have GW102 := gw_ HB hg; have GE102 := gw_ HB hg; replace HB := bs_ HB hb; clear hb hbox hg) | ((with_reducible refine gate_dst (N := 2) rfl ?_); refine bx_ 2 #[.bool false, .int .u64 0, .int .u64 0, .int .i64 0] 43 ?_; intro gb103 hg w7 hbox hb; have BK103 := Aside0.mk (hbox); have GW103 := gw_ HB hg; have GE103 := gw_ HB hg; have NB102_103 := nl_ BK102 hg; have NB103_102 := ng_ BK102 hg; replace BK102 := bb_ BK102 hb; replace HB := bs_ HB hb; clear hb hbox hg) | ((with_reducible refine gate_dst (N := 3) rfl ?_); refine bx_ 3 #[.bool false, .int .u64 0, .int .u64 0, .int .i64 0] 43 ?_; intro gb104 hg w8 hbox hb; have BK104 := Aside0.mk (hbox); have GW104 := gw_ HB hg; have GE104 := gw_ HB hg; have NB102_104 := nl_ BK102 hg; have NB104_102 := ng_ BK102 hg; have NB103_104 := nl_ BK103 hg; have NB104_103 := ng_ BK103 hg; replace BK102 := bb_ BK102 hb; replace BK103 := bb_ BK103 hb; replace HB := bs_ HB hb; clear hb hbox hg; have hnb9 := NB102_103.out; have hnc9 := NB103_102.out; have hnb10 := NB102_104.out; have hnc10 := NB104_102.out; obtain ⟨hcz11_0, hcz11_1, hcz11_2, hcz11_3, hfz11_0, hfz11_1, hfz11_2, hfz11_3⟩ := c4_ BK102) | ((with_reducible refine gate_callee (f := 44) rfl ?_); refine gl_ (some 10) Tryd.func44 #[.agg #[.bool a0_0, .int .u64 a0_1, .int .u64 a0_2]] ?_; (with_reducible refine (addr_Width.calls a0_0 a0_1 a0_2 t105 _ A2.out).mono ?_); rintro e w12 ⟨rfl, hb⟩; refine ⟨_, rfl, ?_⟩; replace BK102 := bb_ BK102 hb; replace BK103 := bb_ BK103 hb; replace BK104 := bb_ BK104 hb; replace HB := bs_ HB hb; (try clear hb); (try clear hb2); (try clear hk); (try clear hi); obtain ⟨hcz13_0, hcz13_1, hcz13_2, hcz13_3, hfz13_0, hfz13_1, hfz13_2, hfz13_3⟩ := c4_ BK102) | ((with_reducible refine gate_callee (f := 54) rfl ?_); refine gl_ (some 13) Tryd.func54 #[.agg #[.bool a0_0, .int .u64 a0_1, .int .u64 a0_2, .int .i64 a0_3]] ?_; (with_reducible refine (prefix_Right.calls a0_0 a0_1 a0_2 a0_3 true _ A3.out).mono ?_); rintro e w14 ⟨rfl, hb⟩; refine ⟨_, rfl, ?_⟩; replace BK102 := bb_ BK102 hb; replace BK103 := bb_ BK103 hb; replace BK104 := bb_ BK104 hb; replace HB := bs_ HB hb; (try clear hb); (try clear hb2); (try clear hk); (try clear hi); obtain ⟨hcz15_0, hcz15_1, hcz15_2, hcz15_3, hfz15_0, hfz15_1, hfz15_2, hfz15_3⟩ := c4_ BK102; have hnb16 := NB103_104.out; have hnc16 := NB104_103.out; obtain ⟨hcz17_0, hcz17_1, hcz17_2, hcz17_3, hfz17_0, hfz17_1, hfz17_2, hfz17_3⟩ := c4_ BK103; obtain ⟨hcz18_0, hcz18_1, hcz18_2, hcz18_3, hfz18_0, hfz18_1, hfz18_2, hfz18_3⟩ := c4_ BK104))
   refine bodyPost_ret (results_list (rs := [.cell 2 43, .cell 3 43, .tmp 4]) rfl (by simp) (.cell gb103 43 #[.bool false, .int .u64 0, .int .u64 0, .int .i64 0] (0, 0) _ rfl (by refine pw_ ?_; refine blk_far ?_ NB103_104.out _; refine pw_ ?_; refine blk_far ?_ NB103_104.out _; refine pw_ ?_; refine blk_far ?_ NB103_104.out _; refine pw_ ?_; refine blk_far ?_ NB103_104.out _; refine pw_ ?_; refine blk_put (cs := #[.bool false, .int .u64 0, .int .u64 0, .int .i64 0]) ?_ 3 _ rfl; refine pw_ ?_; refine blk_put (cs := #[.bool false, .int .u64 0, .int .u64 0, .int .i64 0]) ?_ 2 _ rfl; refine pw_ ?_; refine blk_put (cs := #[.bool false, .int .u64 0, .int .u64 0, .int .i64 0]) ?_ 1 _ rfl; refine pw_ ?_; refine blk_put (cs := #[.bool false, .int .u64 0, .int .u64 0, .int .i64 0]) ?_ 0 _ rfl; refine pw_ ?_; exact BK103.out) Tryd.underlying43 rfl (by kernel_rfl) (.cell gb104 43 #[.bool false, .int .u64 0, .int .u64 0, .int .i64 0] (0, 0) _ rfl (by refine pw_ ?_; refine blk_put (cs := #[.bool false, .int .u64 0, .int .u64 0, .int .i64 0]) ?_ 3 _ rfl; refine pw_ ?_; refine blk_put (cs := #[.bool false, .int .u64 0, .int .u64 0, .int .i64 0]) ?_ 2 _ rfl; refine pw_ ?_; refine blk_put (cs := #[.bool false, .int .u64 0, .int .u64 0, .int .i64 0]) ?_ 1 _ rfl; refine pw_ ?_; refine blk_put (cs := #[.bool false, .int .u64 0, .int .u64 0, .int .i64 0]) ?_ 0 _ rfl; refine pw_ ?_; refine blk_far ?_ NB104_103.out _; refine pw_ ?_; refine blk_far ?_ NB104_103.out _; refine pw_ ?_; refine blk_far ?_ NB104_103.out _; refine pw_ ?_; refine blk_far ?_ NB104_103.out _; refine pw_ ?_; exact BK104.out) Tryd.underlying43 rfl (by kernel_rfl) (.tmp .nil)))) rfl ?_
   exact ⟨by first | rfl | (simp [errW_none, errW_some] <;> rfl) | (simp [*, errW_none, errW_some] <;> rfl), pb_ HB⟩
  ·
   rw [if_neg c5] at H
   have c5b0 : (a0_3 == t105) = false := beq_eq_false_iff_ne.mpr c5
   have c5b1 : (a0_3 != t105) = true := bne_iff_ne.mpr c5
   replace H := Option.bind_eq_some_iff.mp H
   obtain ⟨⟨t109, t110⟩, A190, H⟩ := H
   replace H : ((num_Shl.f t109 t110 (wrap64 (t105 - (wrap64 (a0_3 + 1))))).bind fun bt111 => ((num_Or.f a0_1 a0_2 bt111.1 bt111.2).bind fun bt113 => (some (a0_0, a0_1, a0_2, wrap64 (a0_3 + 1), a0_0, bt113.1, bt113.2, wrap64 (a0_3 + 1), 0)))) = some (r1, r2, r3, r4, r5, r6, r7, r8, r9) := H
   have A19 := Aside0.mk A190
   clear A190
   replace H := Option.bind_eq_some_iff.mp H
   obtain ⟨⟨t111, t112⟩, A200, H⟩ := H
   replace H : ((num_Or.f a0_1 a0_2 t111 t112).bind fun bt113 => (some (a0_0, a0_1, a0_2, wrap64 (a0_3 + 1), a0_0, bt113.1, bt113.2, wrap64 (a0_3 + 1), 0))) = some (r1, r2, r3, r4, r5, r6, r7, r8, r9) := H
   have A20 := Aside0.mk A200
   clear A200
   replace H := Option.bind_eq_some_iff.mp H
   obtain ⟨⟨t113, t114⟩, A210, H⟩ := H
   replace H : (some (a0_0, a0_1, a0_2, wrap64 (a0_3 + 1), a0_0, t113, t114, wrap64 (a0_3 + 1), 0)) = some (r1, r2, r3, r4, r5, r6, r7, r8, r9) := H
   have A21 := Aside0.mk A210
   clear A210
   simp only [Option.some.injEq, Prod.mk.injEq] at H
   obtain ⟨rfl, rfl, rfl, rfl, rfl, rfl, rfl, rfl, rfl⟩ := H
   go_enter Tryd.func52, Tryd.ntmps52
   try go_wp2_with (first | ((with_reducible refine gate_dst (N := 1) rfl ?_); refine bx_ 1 #[.bool a0_0, .int .u64 a0_1, .int .u64 a0_2, .int .i64 a0_3] 43 ?_; intro gb102 hg w22 hbox hb; have BK102 := Aside0.mk (hbox); have GW102 := gw_ HB hg; have GE102 := gw_ HB hg; replace HB := bs_ HB hb; clear hb hbox hg) | ((with_reducible refine gate_dst (N := 2) rfl ?_); refine bx_ 2 #[.bool false, .int .u64 0, .int .u64 0, .int .i64 0] 43 ?_; intro gb103 hg w23 hbox hb; have BK103 := Aside0.mk (hbox); have GW103 := gw_ HB hg; have GE103 := gw_ HB hg; have NB102_103 := nl_ BK102 hg; have NB103_102 := ng_ BK102 hg; replace BK102 := bb_ BK102 hb; replace HB := bs_ HB hb; clear hb hbox hg) | ((with_reducible refine gate_dst (N := 3) rfl ?_); refine bx_ 3 #[.bool false, .int .u64 0, .int .u64 0, .int .i64 0] 43 ?_; intro gb104 hg w24 hbox hb; have BK104 := Aside0.mk (hbox); have GW104 := gw_ HB hg; have GE104 := gw_ HB hg; have NB102_104 := nl_ BK102 hg; have NB104_102 := ng_ BK102 hg; have NB103_104 := nl_ BK103 hg; have NB104_103 := ng_ BK103 hg; replace BK102 := bb_ BK102 hb; replace BK103 := bb_ BK103 hb; replace HB := bs_ HB hb; clear hb hbox hg; have hnb25 := NB102_103.out; have hnc25 := NB103_102.out; have hnb26 := NB102_104.out; have hnc26 := NB104_102.out; obtain ⟨hcz27_0, hcz27_1, hcz27_2, hcz27_3, hfz27_0, hfz27_1, hfz27_2, hfz27_3⟩ := c4_ BK102) | ((with_reducible refine gate_callee (f := 44) rfl ?_); refine gl_ (some 10) Tryd.func44 #[.agg #[.bool a0_0, .int .u64 a0_1, .int .u64 a0_2]] ?_; (with_reducible refine (addr_Width.calls a0_0 a0_1 a0_2 t105 _ A2.out).mono ?_); rintro e w28 ⟨rfl, hb⟩; refine ⟨_, rfl, ?_⟩; replace BK102 := bb_ BK102 hb; replace BK103 := bb_ BK103 hb; replace BK104 := bb_ BK104 hb; replace HB := bs_ HB hb; (try clear hb); (try clear hb2); (try clear hk); (try clear hi); obtain ⟨hcz29_0, hcz29_1, hcz29_2, hcz29_3, hfz29_0, hfz29_1, hfz29_2, hfz29_3⟩ := c4_ BK102) | ((with_reducible refine gate_callee (f := 54) rfl ?_); refine gl_ (some 13) Tryd.func54 #[.agg #[.bool a0_0, .int .u64 a0_1, .int .u64 a0_2, .int .i64 a0_3]] ?_; (with_reducible refine (prefix_Right.calls a0_0 a0_1 a0_2 a0_3 true _ A3.out).mono ?_); rintro e w30 ⟨rfl, hb⟩; refine ⟨_, rfl, ?_⟩; replace BK102 := bb_ BK102 hb; replace BK103 := bb_ BK103 hb; replace BK104 := bb_ BK104 hb; replace HB := bs_ HB hb; (try clear hb); (try clear hb2); (try clear hk); (try clear hi); obtain ⟨hcz31_0, hcz31_1, hcz31_2, hcz31_3, hfz31_0, hfz31_1, hfz31_2, hfz31_3⟩ := c4_ BK102))
   replace BK102 := Aside0.mk (blk_drew BK102.out)
   replace BK103 := Aside0.mk (blk_drew BK103.out)
   replace BK104 := Aside0.mk (blk_drew BK104.out)
   replace HB := Aside0.mk (below_drew1 HB.out)
   refine start_ (n := 6) (S := fun w' => w'.cell? ⟨gb102, 0, none⟩ = some (.bool a0_0) ∧ w'.cell? ⟨gb102, 1, none⟩ = some (.int .u64 a0_1) ∧ w'.cell? ⟨gb102, 2, none⟩ = some (.int .u64 a0_2) ∧ w'.cell? ⟨gb102, 3, none⟩ = some (.int .i64 a0_3)) (ds := []) (bm_ 6 0) (by kernel_rfl) rfl rfl ⟨kc_ BK102 0, kc_ BK102 1, kc_ BK102 2, kc_ BK102 3⟩ (fun hHeld => ?_)
   generalize w30.drew = w32 at BK102 BK103 BK104 HB hHeld ⊢
   refine take_ (i := 0) (N := some 24) (v := ?_) (a' := ?_) (bm_ 6 1) rfl rfl (by kernel_rfl) (fun _ _ _ h => h) (Or.inl ⟨by rfl, ?_⟩) hHeld ?_ ?_
   rotate_left
   ·
    rintro w' ⟨s0, s1, s2, s3⟩
    go_simp
    with_reducible rfl
   rotate_left
   ·
    simp only [Act.put, List.setIfInBounds_toArray, List.set_cons_zero, List.set_cons_succ, i64_w, i32_w]
    rfl
   refine take_ (i := 1) (N := some 25) (v := ?_) (a' := ?_) (bm_ 6 3) rfl rfl (by kernel_rfl) (fun _ _ _ h => h) (Or.inl ⟨by rfl, ?_⟩) hHeld ?_ ?_
   rotate_left
   ·
    rintro w' ⟨s0, s1, s2, s3⟩
    go_simp
    with_reducible rfl
   rotate_left
   ·
    simp only [Act.put, List.setIfInBounds_toArray, List.set_cons_zero, List.set_cons_succ, i64_w, i32_w]
    rfl
   refine join_ (σ := Nat × Nat) 2 (bm_ 6 15) (fun s_ => [(6, .pointer (some ⟨s_.1, 0, none⟩)), (7, .pointer (some ⟨s_.2, 0, none⟩))]) (fun s_ w' => (w'.cell? ⟨gb102, 0, none⟩ = some (.bool a0_0) ∧ w'.cell? ⟨gb102, 1, none⟩ = some (.int .u64 a0_1) ∧ w'.cell? ⟨gb102, 2, none⟩ = some (.int .u64 a0_2) ∧ w'.cell? ⟨gb102, 3, none⟩ = some (.int .i64 a0_3)) ∧ (w'.heap[gb102]? = some (.cells #[.bool a0_0, .int .u64 a0_1, .int .u64 a0_2, .int .i64 a0_3] 43 (0, 0))) ∧ (w'.heap[gb103]? = some (.cells #[.bool false, .int .u64 0, .int .u64 0, .int .i64 0] 43 (0, 0))) ∧ (w'.heap[gb104]? = some (.cells #[.bool false, .int .u64 0, .int .u64 0, .int .i64 0] 43 (0, 0))) ∧ (w'.heap[s_.1]? = some (.cells #[.bool false, .int .u64 0, .int .u64 0, .int .i64 0] 43 (0, 0))) ∧ (w'.heap[s_.2]? = some (.cells #[.bool false, .int .u64 0, .int .u64 0, .int .i64 0] 43 (0, 0))) ∧ (w.heap.size ≤ s_.1) ∧ (w.heap.size ≤ s_.1) ∧ (gb102 ≠ s_.1) ∧ (s_.1 ≠ gb102) ∧ (gb103 ≠ s_.1) ∧ (s_.1 ≠ gb103) ∧ (gb104 ≠ s_.1) ∧ (s_.1 ≠ gb104) ∧ (s_.2 ≠ s_.1) ∧ (s_.1 ≠ s_.2) ∧ (w.heap.size ≤ s_.2) ∧ (w.heap.size ≤ s_.2) ∧ (gb102 ≠ s_.2) ∧ (s_.2 ≠ gb102) ∧ (gb103 ≠ s_.2) ∧ (s_.2 ≠ gb103) ∧ (gb104 ≠ s_.2) ∧ (s_.2 ≠ gb104) ∧ (Below w.heap.size w w')) ?_ ?_
   rotate_left
   ·
    intro hCont
    refine two_ (i := 2) (j := 3) (Ni := some 6) (Nj := some 7) (bm_ 6 7) (bm_ 6 11) rfl rfl rfl rfl (by kernel_rfl) (by decide) (by decide) (fun K hK => ?_) (fun K hK => ?_)
    ·
     skip
     refine box_step ?hg (N := 6) ?hd (cs := #[.bool false, .int .u64 0, .int .u64 0, .int .i64 0]) (t := 43) ?hr ?_; (case hd => rfl); (case hg => rfl); (case hr => first | (go_simp; done) | (go_simp; rfl))
     intro gb107 hg w33 hbox hb
     have BK107 := Aside0.mk (hbox)
     have GW107 := gw_ HB hg
     have GE107 := gw_ HB hg
     have NB102_107 := nl_ BK102 hg
     have NB107_102 := ng_ BK102 hg
     have NB103_107 := nl_ BK103 hg
     have NB107_103 := ng_ BK103 hg
     have NB104_107 := nl_ BK104 hg
     have NB107_104 := ng_ BK104 hg
     replace BK102 := bb_ BK102 hb
     replace BK103 := bb_ BK103 hb
     replace BK104 := bb_ BK104 hb
     replace HB := bs_ HB hb
     clear hb hbox hg
     refine hK.out _ _ ⟨kc_ BK102 0, kc_ BK102 1, kc_ BK102 2, kc_ BK102 3⟩ (fun hHeld => ?_)
     clear hK K
     refine norm_ (a' := ?_) ?_ ?_
     rotate_left
     ·
      show Act.put _ (some 6) _ = _
      simp only [Act.put, List.setIfInBounds_toArray, List.set_cons_zero, List.set_cons_succ, i64_w, i32_w]
      rfl
     refine one_ (i := 3) (N := some 7) (bm_ 6 15) rfl rfl (by kernel_rfl) (by decide) (fun K hK => ?_)
     refine box_step ?hg (N := 7) ?hd (cs := #[.bool false, .int .u64 0, .int .u64 0, .int .i64 0]) (t := 43) ?hr ?_; (case hd => rfl); (case hg => rfl); (case hr => first | (go_simp; done) | (go_simp; rfl))
     intro gb108 hg w34 hbox hb
     have BK108 := Aside0.mk (hbox)
     have GW108 := gw_ HB hg
     have GE108 := gw_ HB hg
     have NB102_108 := nl_ BK102 hg
     have NB108_102 := ng_ BK102 hg
     have NB103_108 := nl_ BK103 hg
     have NB108_103 := ng_ BK103 hg
     have NB104_108 := nl_ BK104 hg
     have NB108_104 := ng_ BK104 hg
     have NB107_108 := nl_ BK107 hg
     have NB108_107 := ng_ BK107 hg
     replace BK102 := bb_ BK102 hb
     replace BK103 := bb_ BK103 hb
     replace BK104 := bb_ BK104 hb
     replace BK107 := bb_ BK107 hb
     replace HB := bs_ HB hb
     clear hb hbox hg
     refine hK.out _ _ ⟨kc_ BK102 0, kc_ BK102 1, kc_ BK102 2, kc_ BK102 3⟩ (fun hHeld => ?_)
     clear hK K
     refine norm_ (a' := ?_) ?_ ?_
     rotate_left
     ·
      show Act.put _ (some 7) _ = _
      simp only [Act.put, List.setIfInBounds_toArray, List.set_cons_zero, List.set_cons_succ, i64_w, i32_w]
      rfl
     exact norm_ (by simp only [putAll, Act.put, List.setIfInBounds_toArray, List.set_cons_zero, List.set_cons_succ]) (hCont (gb107, gb108) _ ⟨hHeld, (pk_ BK102), (pk_ BK103), (pk_ BK104), (pk_ BK107), (pk_ BK108), GW107.out, GE107.out, NB102_107.out, NB107_102.out, NB103_107.out, NB107_103.out, NB104_107.out, NB107_104.out, NB108_107.out, NB107_108.out, GW108.out, GE108.out, NB102_108.out, NB108_102.out, NB103_108.out, NB108_103.out, NB104_108.out, NB108_104.out, (pb_ HB)⟩)
    ·
     skip
     refine box_step ?hg (N := 7) ?hd (cs := #[.bool false, .int .u64 0, .int .u64 0, .int .i64 0]) (t := 43) ?hr ?_; (case hd => rfl); (case hg => rfl); (case hr => first | (go_simp; done) | (go_simp; rfl))
     intro gb108 hg w33 hbox hb
     have BK108 := Aside0.mk (hbox)
     have GW108 := gw_ HB hg
     have GE108 := gw_ HB hg
     have NB102_108 := nl_ BK102 hg
     have NB108_102 := ng_ BK102 hg
     have NB103_108 := nl_ BK103 hg
     have NB108_103 := ng_ BK103 hg
     have NB104_108 := nl_ BK104 hg
     have NB108_104 := ng_ BK104 hg
     replace BK102 := bb_ BK102 hb
     replace BK103 := bb_ BK103 hb
     replace BK104 := bb_ BK104 hb
     replace HB := bs_ HB hb
     clear hb hbox hg
     refine hK.out _ _ ⟨kc_ BK102 0, kc_ BK102 1, kc_ BK102 2, kc_ BK102 3⟩ (fun hHeld => ?_)
     clear hK K
     refine norm_ (a' := ?_) ?_ ?_
     rotate_left
     ·
      show Act.put _ (some 7) _ = _
      simp only [Act.put, List.setIfInBounds_toArray, List.set_cons_zero, List.set_cons_succ, i64_w, i32_w]
      rfl
     refine one_ (i := 2) (N := some 6) (bm_ 6 15) rfl rfl (by kernel_rfl) (by decide) (fun K hK => ?_)
     refine box_step ?hg (N := 6) ?hd (cs := #[.bool false, .int .u64 0, .int .u64 0, .int .i64 0]) (t := 43) ?hr ?_; (case hd => rfl); (case hg => rfl); (case hr => first | (go_simp; done) | (go_simp; rfl))
     intro gb107 hg w34 hbox hb
     have BK107 := Aside0.mk (hbox)
     have GW107 := gw_ HB hg
     have GE107 := gw_ HB hg
     have NB102_107 := nl_ BK102 hg
     have NB107_102 := ng_ BK102 hg
     have NB103_107 := nl_ BK103 hg
     have NB107_103 := ng_ BK103 hg
     have NB104_107 := nl_ BK104 hg
     have NB107_104 := ng_ BK104 hg
     have NB108_107 := nl_ BK108 hg
     have NB107_108 := ng_ BK108 hg
     replace BK102 := bb_ BK102 hb
     replace BK103 := bb_ BK103 hb
     replace BK104 := bb_ BK104 hb
     replace BK108 := bb_ BK108 hb
     replace HB := bs_ HB hb
     clear hb hbox hg
     refine hK.out _ _ ⟨kc_ BK102 0, kc_ BK102 1, kc_ BK102 2, kc_ BK102 3⟩ (fun hHeld => ?_)
     clear hK K
     refine norm_ (a' := ?_) ?_ ?_
     rotate_left
     ·
      show Act.put _ (some 6) _ = _
      simp only [Act.put, List.setIfInBounds_toArray, List.set_cons_zero, List.set_cons_succ, i64_w, i32_w]
      rfl
     exact norm_ (by simp only [putAll, Act.put, List.setIfInBounds_toArray, List.set_cons_zero, List.set_cons_succ]) (hCont (gb107, gb108) _ ⟨hHeld, (pk_ BK102), (pk_ BK103), (pk_ BK104), (pk_ BK107), (pk_ BK108), GW107.out, GE107.out, NB102_107.out, NB107_102.out, NB103_107.out, NB107_103.out, NB104_107.out, NB107_104.out, NB108_107.out, NB107_108.out, GW108.out, GE108.out, NB102_108.out, NB108_102.out, NB103_108.out, NB108_103.out, NB104_108.out, NB108_104.out, (pb_ HB)⟩)
   rintro ⟨gb107, gb108⟩ w35 ⟨hS_, h0_, h1_, h2_, h3_, h4_, h5_, h6_, h7_, h8_, h9_, h10_, h11_, h12_, h13_, h14_, h15_, h16_, h17_, h18_, h19_, h20_, h21_, h22_, h23_⟩
   have n0_ : Aside0 (w35.heap[gb102]? = some (.cells #[.bool a0_0, .int .u64 a0_1, .int .u64 a0_2, .int .i64 a0_3] 43 (0, 0))) := ⟨h0_⟩
   have n1_ : Aside0 (w35.heap[gb103]? = some (.cells #[.bool false, .int .u64 0, .int .u64 0, .int .i64 0] 43 (0, 0))) := ⟨h1_⟩
   have n2_ : Aside0 (w35.heap[gb104]? = some (.cells #[.bool false, .int .u64 0, .int .u64 0, .int .i64 0] 43 (0, 0))) := ⟨h2_⟩
   have n3_ : Aside0 (w35.heap[gb107]? = some (.cells #[.bool false, .int .u64 0, .int .u64 0, .int .i64 0] 43 (0, 0))) := ⟨h3_⟩
   have n4_ : Aside0 (w35.heap[gb108]? = some (.cells #[.bool false, .int .u64 0, .int .u64 0, .int .i64 0] 43 (0, 0))) := ⟨h4_⟩
   have n5_ : Aside0 (w.heap.size ≤ gb107) := ⟨h5_⟩
   have n6_ : Aside0 (w.heap.size ≤ gb107) := ⟨h6_⟩
   have n7_ : Aside0 (gb102 ≠ gb107) := ⟨h7_⟩
   have n8_ : Aside0 (gb107 ≠ gb102) := ⟨h8_⟩
   have n9_ : Aside0 (gb103 ≠ gb107) := ⟨h9_⟩
   have n10_ : Aside0 (gb107 ≠ gb103) := ⟨h10_⟩
   have n11_ : Aside0 (gb104 ≠ gb107) := ⟨h11_⟩
   have n12_ : Aside0 (gb107 ≠ gb104) := ⟨h12_⟩
   have n13_ : Aside0 (gb108 ≠ gb107) := ⟨h13_⟩
   have n14_ : Aside0 (gb107 ≠ gb108) := ⟨h14_⟩
   have n15_ : Aside0 (w.heap.size ≤ gb108) := ⟨h15_⟩
   have n16_ : Aside0 (w.heap.size ≤ gb108) := ⟨h16_⟩
   have n17_ : Aside0 (gb102 ≠ gb108) := ⟨h17_⟩
   have n18_ : Aside0 (gb108 ≠ gb102) := ⟨h18_⟩
   have n19_ : Aside0 (gb103 ≠ gb108) := ⟨h19_⟩
   have n20_ : Aside0 (gb108 ≠ gb103) := ⟨h20_⟩
   have n21_ : Aside0 (gb104 ≠ gb108) := ⟨h21_⟩
   have n22_ : Aside0 (gb108 ≠ gb104) := ⟨h22_⟩
   have n23_ : Aside0 (Below w.heap.size w w35) := ⟨h23_⟩
   clear BK102
   clear BK103
   clear BK104
   clear HB
   clear h0_ h1_ h2_ h3_ h4_ h5_ h6_ h7_ h8_ h9_ h10_ h11_ h12_ h13_ h14_ h15_ h16_ h17_ h18_ h19_ h20_ h21_ h22_ h23_
   have BK102 := n0_
   have BK103 := n1_
   have BK104 := n2_
   have BK107 := n3_
   have BK108 := n4_
   have GW107 := n5_
   have GE107 := n6_
   have NB102_107 := n7_
   have NB107_102 := n8_
   have NB103_107 := n9_
   have NB107_103 := n10_
   have NB104_107 := n11_
   have NB107_104 := n12_
   have NB108_107 := n13_
   have NB107_108 := n14_
   have GW108 := n15_
   have GE108 := n16_
   have NB102_108 := n17_
   have NB108_102 := n18_
   have NB103_108 := n19_
   have NB108_103 := n20_
   have NB104_108 := n21_
   have NB108_104 := n22_
   have HB := n23_
   clear n0_ n1_ n2_ n3_ n4_ n5_ n6_ n7_ n8_ n9_ n10_ n11_ n12_ n13_ n14_ n15_ n16_ n17_ n18_ n19_ n20_ n21_ n22_ n23_
   have hHeld : w35.cell? ⟨gb102, 0, none⟩ = some (.bool a0_0) ∧ w35.cell? ⟨gb102, 1, none⟩ = some (.int .u64 a0_1) ∧ w35.cell? ⟨gb102, 2, none⟩ = some (.int .u64 a0_2) ∧ w35.cell? ⟨gb102, 3, none⟩ = some (.int .i64 a0_3) := hS_
   refine norm_ (a' := ?_) ?_ ?_
   rotate_left
   ·
    simp only [putAll, Act.put, List.setIfInBounds_toArray, List.set_cons_zero, List.set_cons_succ]
    rfl
   refine one_ (i := 4) (N := none) (bm_ 6 31) rfl rfl (by kernel_rfl) (by decide) (fun K hK => ?_)
   have hs36 : w35.cell? ⟨gb107, 0, none⟩ = some (.bool false) := kc_ BK107 0
   have hfs36 := blk_frozen BK107.out 0
   have hns36_0 := NB102_107.out
   have hns36_1 := NB103_107.out
   have hns36_2 := NB104_107.out
   have hns36_4 := NB108_107.out
   have hms36_0 := NB107_102.out
   have hms36_1 := NB107_103.out
   have hms36_2 := NB107_104.out
   have hms36_4 := NB107_108.out
   have hs37 : w35.cell? ⟨gb107, 1, none⟩ = some (.int .u64 0) := kc_ BK107 1
   have hfs37 := blk_frozen BK107.out 1
   have hns37_0 := NB102_107.out
   have hns37_1 := NB103_107.out
   have hns37_2 := NB104_107.out
   have hns37_4 := NB108_107.out
   have hms37_0 := NB107_102.out
   have hms37_1 := NB107_103.out
   have hms37_2 := NB107_104.out
   have hms37_4 := NB107_108.out
   have hs38 : w35.cell? ⟨gb107, 2, none⟩ = some (.int .u64 0) := kc_ BK107 2
   have hfs38 := blk_frozen BK107.out 2
   have hns38_0 := NB102_107.out
   have hns38_1 := NB103_107.out
   have hns38_2 := NB104_107.out
   have hns38_4 := NB108_107.out
   have hms38_0 := NB107_102.out
   have hms38_1 := NB107_103.out
   have hms38_2 := NB107_104.out
   have hms38_4 := NB107_108.out
   have hs39 : w35.cell? ⟨gb107, 3, none⟩ = some (.int .i64 0) := kc_ BK107 3
   have hfs39 := blk_frozen BK107.out 3
   have hns39_0 := NB102_107.out
   have hns39_1 := NB103_107.out
   have hns39_2 := NB104_107.out
   have hns39_4 := NB108_107.out
   have hms39_0 := NB107_102.out
   have hms39_1 := NB107_103.out
   have hms39_2 := NB107_104.out
   have hms39_4 := NB107_108.out
   refine skip_ (w1 := ?_) (by rfl) rfl ?_ ?_
   rotate_left
   ·
    go_simp
    rfl
   refine hK.out _ _ ⟨((cell_far (p := ⟨gb107, _, none⟩) NB102_107.out _).trans (((cell_far (p := ⟨gb107, _, none⟩) NB102_107.out _).trans (((cell_far (p := ⟨gb107, _, none⟩) NB102_107.out _).trans (((cell_far (p := ⟨gb107, _, none⟩) NB102_107.out _).trans (hHeld.1)))))))), ((cell_far (p := ⟨gb107, _, none⟩) NB102_107.out _).trans (((cell_far (p := ⟨gb107, _, none⟩) NB102_107.out _).trans (((cell_far (p := ⟨gb107, _, none⟩) NB102_107.out _).trans (((cell_far (p := ⟨gb107, _, none⟩) NB102_107.out _).trans (hHeld.2.1)))))))), ((cell_far (p := ⟨gb107, _, none⟩) NB102_107.out _).trans (((cell_far (p := ⟨gb107, _, none⟩) NB102_107.out _).trans (((cell_far (p := ⟨gb107, _, none⟩) NB102_107.out _).trans (((cell_far (p := ⟨gb107, _, none⟩) NB102_107.out _).trans (hHeld.2.2.1)))))))), ((cell_far (p := ⟨gb107, _, none⟩) NB102_107.out _).trans (((cell_far (p := ⟨gb107, _, none⟩) NB102_107.out _).trans (((cell_far (p := ⟨gb107, _, none⟩) NB102_107.out _).trans (((cell_far (p := ⟨gb107, _, none⟩) NB102_107.out _).trans (hHeld.2.2.2))))))))⟩ (fun hHeld => ?_)
   clear hK K
   refine one_ (i := 5) (N := none) (bm_ 6 63) rfl rfl (by kernel_rfl) (by decide) (fun K hK => ?_)
   have hs40 : w35.cell? ⟨gb108, 0, none⟩ = some (.bool false) := kc_ BK108 0
   have hfs40 := blk_frozen BK108.out 0
   have hns40_0 := NB102_108.out
   have hns40_1 := NB103_108.out
   have hns40_2 := NB104_108.out
   have hns40_3 := NB107_108.out
   have hms40_0 := NB108_102.out
   have hms40_1 := NB108_103.out
   have hms40_2 := NB108_104.out
   have hms40_3 := NB108_107.out
   have hs41 : w35.cell? ⟨gb108, 1, none⟩ = some (.int .u64 0) := kc_ BK108 1
   have hfs41 := blk_frozen BK108.out 1
   have hns41_0 := NB102_108.out
   have hns41_1 := NB103_108.out
   have hns41_2 := NB104_108.out
   have hns41_3 := NB107_108.out
   have hms41_0 := NB108_102.out
   have hms41_1 := NB108_103.out
   have hms41_2 := NB108_104.out
   have hms41_3 := NB108_107.out
   have hs42 : w35.cell? ⟨gb108, 2, none⟩ = some (.int .u64 0) := kc_ BK108 2
   have hfs42 := blk_frozen BK108.out 2
   have hns42_0 := NB102_108.out
   have hns42_1 := NB103_108.out
   have hns42_2 := NB104_108.out
   have hns42_3 := NB107_108.out
   have hms42_0 := NB108_102.out
   have hms42_1 := NB108_103.out
   have hms42_2 := NB108_104.out
   have hms42_3 := NB108_107.out
   have hs43 : w35.cell? ⟨gb108, 3, none⟩ = some (.int .i64 0) := kc_ BK108 3
   have hfs43 := blk_frozen BK108.out 3
   have hns43_0 := NB102_108.out
   have hns43_1 := NB103_108.out
   have hns43_2 := NB104_108.out
   have hns43_3 := NB107_108.out
   have hms43_0 := NB108_102.out
   have hms43_1 := NB108_103.out
   have hms43_2 := NB108_104.out
   have hms43_3 := NB108_107.out
   refine skip_ (w1 := ?_) (by rfl) rfl ?_ ?_
   rotate_left
   ·
    go_simp
    rfl
   refine hK.out _ _ ⟨((cell_far (p := ⟨gb108, _, none⟩) NB102_108.out _).trans (((cell_far (p := ⟨gb108, _, none⟩) NB102_108.out _).trans (((cell_far (p := ⟨gb108, _, none⟩) NB102_108.out _).trans (((cell_far (p := ⟨gb108, _, none⟩) NB102_108.out _).trans (hHeld.1)))))))), ((cell_far (p := ⟨gb108, _, none⟩) NB102_108.out _).trans (((cell_far (p := ⟨gb108, _, none⟩) NB102_108.out _).trans (((cell_far (p := ⟨gb108, _, none⟩) NB102_108.out _).trans (((cell_far (p := ⟨gb108, _, none⟩) NB102_108.out _).trans (hHeld.2.1)))))))), ((cell_far (p := ⟨gb108, _, none⟩) NB102_108.out _).trans (((cell_far (p := ⟨gb108, _, none⟩) NB102_108.out _).trans (((cell_far (p := ⟨gb108, _, none⟩) NB102_108.out _).trans (((cell_far (p := ⟨gb108, _, none⟩) NB102_108.out _).trans (hHeld.2.2.1)))))))), ((cell_far (p := ⟨gb108, _, none⟩) NB102_108.out _).trans (((cell_far (p := ⟨gb108, _, none⟩) NB102_108.out _).trans (((cell_far (p := ⟨gb108, _, none⟩) NB102_108.out _).trans (((cell_far (p := ⟨gb108, _, none⟩) NB102_108.out _).trans (hHeld.2.2.2))))))))⟩ (fun hHeld => ?_)
   clear hK K
   refine done_ (by kernel_rfl) ?_
   have hnb44 := NB107_102.out
   have hnc44 := NB102_107.out
   have hnb45 := NB107_103.out
   have hnc45 := NB103_107.out
   have hnb46 := NB107_104.out
   have hnc46 := NB104_107.out
   have hnb47 := NB107_108.out
   have hnc47 := NB108_107.out
   obtain ⟨hcz48_0, hcz48_1, hcz48_2, hcz48_3, hfz48_0, hfz48_1, hfz48_2, hfz48_3⟩ := c4_ BK107
   have hnb49 := NB108_102.out
   have hnc49 := NB102_108.out
   have hnb50 := NB108_103.out
   have hnc50 := NB103_108.out
   have hnb51 := NB108_104.out
   have hnc51 := NB104_108.out
   obtain ⟨hcz52_0, hcz52_1, hcz52_2, hcz52_3, hfz52_0, hfz52_1, hfz52_2, hfz52_3⟩ := c4_ BK108
   try go_wp2
   have n0_ : Aside0 (((((((((((w35.setCell ⟨gb107, 0, none⟩ (.bool a0_0)).setCell ⟨gb107, 1, none⟩ (.int .u64 a0_1)).setCell ⟨gb107, 2, none⟩ (.int .u64 a0_2)).setCell ⟨gb107, 3, none⟩ (.int .i64 a0_3)).setCell ⟨gb108, 0, none⟩ (.bool a0_0)).setCell ⟨gb108, 1, none⟩ (.int .u64 a0_1)).setCell ⟨gb108, 2, none⟩ (.int .u64 a0_2)).setCell ⟨gb108, 3, none⟩ (.int .i64 a0_3)).setCell ⟨gb107, 3, none⟩ (.int .i64 (wrap64 (a0_3 + 1)))).setCell ⟨gb108, 3, none⟩ (.int .i64 (wrap64 (a0_3 + 1)))).heap[gb102]? = some (.cells #[.bool a0_0, .int .u64 a0_1, .int .u64 a0_2, .int .i64 a0_3] 43 (0, 0))) := ⟨by refine pw_ ?_; refine blk_far ?_ NB102_108.out _; refine pw_ ?_; refine blk_far ?_ NB102_107.out _; refine pw_ ?_; refine blk_far ?_ NB102_108.out _; refine pw_ ?_; refine blk_far ?_ NB102_108.out _; refine pw_ ?_; refine blk_far ?_ NB102_108.out _; refine pw_ ?_; refine blk_far ?_ NB102_108.out _; refine pw_ ?_; refine blk_far ?_ NB102_107.out _; refine pw_ ?_; refine blk_far ?_ NB102_107.out _; refine pw_ ?_; refine blk_far ?_ NB102_107.out _; refine pw_ ?_; refine blk_far ?_ NB102_107.out _; refine pw_ ?_; exact BK102.out⟩
   have n1_ : Aside0 (((((((((((w35.setCell ⟨gb107, 0, none⟩ (.bool a0_0)).setCell ⟨gb107, 1, none⟩ (.int .u64 a0_1)).setCell ⟨gb107, 2, none⟩ (.int .u64 a0_2)).setCell ⟨gb107, 3, none⟩ (.int .i64 a0_3)).setCell ⟨gb108, 0, none⟩ (.bool a0_0)).setCell ⟨gb108, 1, none⟩ (.int .u64 a0_1)).setCell ⟨gb108, 2, none⟩ (.int .u64 a0_2)).setCell ⟨gb108, 3, none⟩ (.int .i64 a0_3)).setCell ⟨gb107, 3, none⟩ (.int .i64 (wrap64 (a0_3 + 1)))).setCell ⟨gb108, 3, none⟩ (.int .i64 (wrap64 (a0_3 + 1)))).heap[gb103]? = some (.cells #[.bool false, .int .u64 0, .int .u64 0, .int .i64 0] 43 (0, 0))) := ⟨by refine pw_ ?_; refine blk_far ?_ NB103_108.out _; refine pw_ ?_; refine blk_far ?_ NB103_107.out _; refine pw_ ?_; refine blk_far ?_ NB103_108.out _; refine pw_ ?_; refine blk_far ?_ NB103_108.out _; refine pw_ ?_; refine blk_far ?_ NB103_108.out _; refine pw_ ?_; refine blk_far ?_ NB103_108.out _; refine pw_ ?_; refine blk_far ?_ NB103_107.out _; refine pw_ ?_; refine blk_far ?_ NB103_107.out _; refine pw_ ?_; refine blk_far ?_ NB103_107.out _; refine pw_ ?_; refine blk_far ?_ NB103_107.out _; refine pw_ ?_; exact BK103.out⟩
   have n2_ : Aside0 (((((((((((w35.setCell ⟨gb107, 0, none⟩ (.bool a0_0)).setCell ⟨gb107, 1, none⟩ (.int .u64 a0_1)).setCell ⟨gb107, 2, none⟩ (.int .u64 a0_2)).setCell ⟨gb107, 3, none⟩ (.int .i64 a0_3)).setCell ⟨gb108, 0, none⟩ (.bool a0_0)).setCell ⟨gb108, 1, none⟩ (.int .u64 a0_1)).setCell ⟨gb108, 2, none⟩ (.int .u64 a0_2)).setCell ⟨gb108, 3, none⟩ (.int .i64 a0_3)).setCell ⟨gb107, 3, none⟩ (.int .i64 (wrap64 (a0_3 + 1)))).setCell ⟨gb108, 3, none⟩ (.int .i64 (wrap64 (a0_3 + 1)))).heap[gb104]? = some (.cells #[.bool false, .int .u64 0, .int .u64 0, .int .i64 0] 43 (0, 0))) := ⟨by refine pw_ ?_; refine blk_far ?_ NB104_108.out _; refine pw_ ?_; refine blk_far ?_ NB104_107.out _; refine pw_ ?_; refine blk_far ?_ NB104_108.out _; refine pw_ ?_; refine blk_far ?_ NB104_108.out _; refine pw_ ?_; refine blk_far ?_ NB104_108.out _; refine pw_ ?_; refine blk_far ?_ NB104_108.out _; refine pw_ ?_; refine blk_far ?_ NB104_107.out _; refine pw_ ?_; refine blk_far ?_ NB104_107.out _; refine pw_ ?_; refine blk_far ?_ NB104_107.out _; refine pw_ ?_; refine blk_far ?_ NB104_107.out _; refine pw_ ?_; exact BK104.out⟩
   have n3_ : Aside0 (((((((((((w35.setCell ⟨gb107, 0, none⟩ (.bool a0_0)).setCell ⟨gb107, 1, none⟩ (.int .u64 a0_1)).setCell ⟨gb107, 2, none⟩ (.int .u64 a0_2)).setCell ⟨gb107, 3, none⟩ (.int .i64 a0_3)).setCell ⟨gb108, 0, none⟩ (.bool a0_0)).setCell ⟨gb108, 1, none⟩ (.int .u64 a0_1)).setCell ⟨gb108, 2, none⟩ (.int .u64 a0_2)).setCell ⟨gb108, 3, none⟩ (.int .i64 a0_3)).setCell ⟨gb107, 3, none⟩ (.int .i64 (wrap64 (a0_3 + 1)))).setCell ⟨gb108, 3, none⟩ (.int .i64 (wrap64 (a0_3 + 1)))).heap[gb107]? = some (.cells #[.bool a0_0, .int .u64 a0_1, .int .u64 a0_2, .int .i64 (wrap64 (a0_3 + 1))] 43 (0, 0))) := ⟨by refine pw_ ?_; refine blk_far ?_ NB107_108.out _; refine pw_ ?_; refine blk_put (cs := #[.bool a0_0, .int .u64 a0_1, .int .u64 a0_2, .int .i64 a0_3]) ?_ 3 _ rfl; refine pw_ ?_; refine blk_far ?_ NB107_108.out _; refine pw_ ?_; refine blk_far ?_ NB107_108.out _; refine pw_ ?_; refine blk_far ?_ NB107_108.out _; refine pw_ ?_; refine blk_far ?_ NB107_108.out _; refine pw_ ?_; refine blk_put (cs := #[.bool a0_0, .int .u64 a0_1, .int .u64 a0_2, .int .i64 0]) ?_ 3 _ rfl; refine pw_ ?_; refine blk_put (cs := #[.bool a0_0, .int .u64 a0_1, .int .u64 0, .int .i64 0]) ?_ 2 _ rfl; refine pw_ ?_; refine blk_put (cs := #[.bool a0_0, .int .u64 0, .int .u64 0, .int .i64 0]) ?_ 1 _ rfl; refine pw_ ?_; refine blk_put (cs := #[.bool false, .int .u64 0, .int .u64 0, .int .i64 0]) ?_ 0 _ rfl; refine pw_ ?_; exact BK107.out⟩
   have n4_ : Aside0 (((((((((((w35.setCell ⟨gb107, 0, none⟩ (.bool a0_0)).setCell ⟨gb107, 1, none⟩ (.int .u64 a0_1)).setCell ⟨gb107, 2, none⟩ (.int .u64 a0_2)).setCell ⟨gb107, 3, none⟩ (.int .i64 a0_3)).setCell ⟨gb108, 0, none⟩ (.bool a0_0)).setCell ⟨gb108, 1, none⟩ (.int .u64 a0_1)).setCell ⟨gb108, 2, none⟩ (.int .u64 a0_2)).setCell ⟨gb108, 3, none⟩ (.int .i64 a0_3)).setCell ⟨gb107, 3, none⟩ (.int .i64 (wrap64 (a0_3 + 1)))).setCell ⟨gb108, 3, none⟩ (.int .i64 (wrap64 (a0_3 + 1)))).heap[gb108]? = some (.cells #[.bool a0_0, .int .u64 a0_1, .int .u64 a0_2, .int .i64 (wrap64 (a0_3 + 1))] 43 (0, 0))) := ⟨by refine pw_ ?_; refine blk_put (cs := #[.bool a0_0, .int .u64 a0_1, .int .u64 a0_2, .int .i64 a0_3]) ?_ 3 _ rfl; refine pw_ ?_; refine blk_far ?_ NB108_107.out _; refine pw_ ?_; refine blk_put (cs := #[.bool a0_0, .int .u64 a0_1, .int .u64 a0_2, .int .i64 0]) ?_ 3 _ rfl; refine pw_ ?_; refine blk_put (cs := #[.bool a0_0, .int .u64 a0_1, .int .u64 0, .int .i64 0]) ?_ 2 _ rfl; refine pw_ ?_; refine blk_put (cs := #[.bool a0_0, .int .u64 0, .int .u64 0, .int .i64 0]) ?_ 1 _ rfl; refine pw_ ?_; refine blk_put (cs := #[.bool false, .int .u64 0, .int .u64 0, .int .i64 0]) ?_ 0 _ rfl; refine pw_ ?_; refine blk_far ?_ NB108_107.out _; refine pw_ ?_; refine blk_far ?_ NB108_107.out _; refine pw_ ?_; refine blk_far ?_ NB108_107.out _; refine pw_ ?_; refine blk_far ?_ NB108_107.out _; refine pw_ ?_; exact BK108.out⟩
   have n5_ : Aside0 (Below w.heap.size w ((((((((((w35.setCell ⟨gb107, 0, none⟩ (.bool a0_0)).setCell ⟨gb107, 1, none⟩ (.int .u64 a0_1)).setCell ⟨gb107, 2, none⟩ (.int .u64 a0_2)).setCell ⟨gb107, 3, none⟩ (.int .i64 a0_3)).setCell ⟨gb108, 0, none⟩ (.bool a0_0)).setCell ⟨gb108, 1, none⟩ (.int .u64 a0_1)).setCell ⟨gb108, 2, none⟩ (.int .u64 a0_2)).setCell ⟨gb108, 3, none⟩ (.int .i64 a0_3)).setCell ⟨gb107, 3, none⟩ (.int .i64 (wrap64 (a0_3 + 1)))).setCell ⟨gb108, 3, none⟩ (.int .i64 (wrap64 (a0_3 + 1))))) := ⟨pb_ HB⟩
   (try clear BK102)
   (try clear BK103)
   (try clear BK104)
   (try clear BK107)
   (try clear BK108)
   (try clear HB)
   generalize ((((((((((w35.setCell ⟨gb107, 0, none⟩ (.bool a0_0)).setCell ⟨gb107, 1, none⟩ (.int .u64 a0_1)).setCell ⟨gb107, 2, none⟩ (.int .u64 a0_2)).setCell ⟨gb107, 3, none⟩ (.int .i64 a0_3)).setCell ⟨gb108, 0, none⟩ (.bool a0_0)).setCell ⟨gb108, 1, none⟩ (.int .u64 a0_1)).setCell ⟨gb108, 2, none⟩ (.int .u64 a0_2)).setCell ⟨gb108, 3, none⟩ (.int .i64 a0_3)).setCell ⟨gb107, 3, none⟩ (.int .i64 (wrap64 (a0_3 + 1)))).setCell ⟨gb108, 3, none⟩ (.int .i64 (wrap64 (a0_3 + 1)))) = w53 at n0_ n1_ n2_ n3_ n4_ n5_ ⊢
   have BK102 := n0_
   have BK103 := n1_
   have BK104 := n2_
   have BK107 := n3_
   have BK108 := n4_
   have HB := n5_
   clear n0_ n1_ n2_ n3_ n4_ n5_
   replace BK102 := Aside0.mk (blk_drew BK102.out)
   replace BK103 := Aside0.mk (blk_drew BK103.out)
   replace BK104 := Aside0.mk (blk_drew BK104.out)
   replace BK107 := Aside0.mk (blk_drew BK107.out)
   replace BK108 := Aside0.mk (blk_drew BK108.out)
   replace HB := Aside0.mk (below_drew1 HB.out)
   refine start_ (n := 13) (S := fun w' => w'.cell? ⟨gb108, 0, none⟩ = some (.bool a0_0) ∧ w'.cell? ⟨gb108, 1, none⟩ = some (.int .u64 a0_1) ∧ w'.cell? ⟨gb108, 2, none⟩ = some (.int .u64 a0_2) ∧ w'.cell? ⟨gb108, 3, none⟩ = some (.int .i64 (wrap64 (a0_3 + 1)))) (ds := [12]) (bm_ 13 0) (by kernel_rfl) rfl rfl ⟨kc_ BK108 0, kc_ BK108 1, kc_ BK108 2, kc_ BK108 3⟩ (fun hHeld => ?_); refine with_tabW prefix_Halves.tab9 prefix_Halves.bits9 (fun HT_ HW_ => ?_)
   generalize w53.drew = w54 at BK102 BK103 BK104 BK107 BK108 HB hHeld ⊢
   refine pu_ 0 (some 34) (bm_ 13 1) rfl HT_ ⟨by rfl, by intro w'; go_simp; with_reducible rfl⟩ ?_
   refine pu_ 1 (some 35) (bm_ 13 3) rfl HT_ ⟨by rfl, by intro w'; go_simp; with_reducible rfl⟩ ?_
   refine pu_ 4 (some 38) (bm_ 13 19) rfl HT_ ⟨by rfl, by intro w'; go_simp; with_reducible rfl⟩ ?_
   refine pu_ 5 (some 39) (bm_ 13 51) rfl HT_ ⟨by rfl, by intro w'; go_simp; with_reducible rfl⟩ ?_
   refine ta_ 2 (some 36) (bm_ 13 55) rfl HT_ HW_ ⟨by rfl, by rintro w' ⟨s0, s1, s2, s3⟩; go_simp; with_reducible rfl⟩ hHeld ?_
   refine ta_ 6 (some 40) (bm_ 13 119) rfl HT_ HW_ ⟨by rfl, by rintro w' ⟨s0, s1, s2, s3⟩; go_simp; with_reducible rfl⟩ hHeld ?_
   refine pu_ 7 (some 41) (bm_ 13 247) rfl HT_ ⟨by rfl, by intro w'; go_simp; with_reducible rfl⟩ ?_
   refine one_ (i := 3) (N := some 37) (bm_ 13 255) rfl rfl (one_of HT_.out (by kernel_rfl)) (by decide) (fun K hK => ?_)
   refine gr_ Tryd.func43 #[.int .u64 1] ?_
   with_reducible refine (num_Of.calls 1 t109 t110 _ A19.out).mono ?_
   rintro e w55 ⟨rfl, hb⟩
   refine ⟨_, rfl, ?_⟩
   replace BK102 := bb_ BK102 hb
   replace BK103 := bb_ BK103 hb
   replace BK104 := bb_ BK104 hb
   replace BK107 := bb_ BK107 hb
   replace BK108 := bb_ BK108 hb
   replace HB := bs_ HB hb
   (try clear hb)
   (try clear hb2)
   (try clear hk)
   (try clear hi)
   refine hK.out _ _ ⟨kc_ BK108 0, kc_ BK108 1, kc_ BK108 2, kc_ BK108 3⟩ (fun hHeld => ?_)
   clear hK K
   refine norm_ (a' := ?_) ?_ ?_
   rotate_left
   ·
    show Act.put _ (some 37) _ = _
    simp only [Act.put, List.setIfInBounds_toArray, List.set_cons_zero, List.set_cons_succ, i64_w, i32_w]
    rfl
   refine one_ (i := 8) (N := some 42) (bm_ 13 511) rfl rfl (one_of HT_.out (by kernel_rfl)) (by decide) (fun K hK => ?_)
   refine gr_ Tryd.func42 #[.agg #[.int .u64 t109, .int .u64 t110], .int .i64 (wrap64 (t105 - (wrap64 (a0_3 + 1))))] ?_
   with_reducible refine (num_Shl.calls t109 t110 (wrap64 (t105 - (wrap64 (a0_3 + 1)))) t111 t112 _ A20.out).mono ?_
   rintro e w56 ⟨rfl, hb⟩
   refine ⟨_, rfl, ?_⟩
   replace BK102 := bb_ BK102 hb
   replace BK103 := bb_ BK103 hb
   replace BK104 := bb_ BK104 hb
   replace BK107 := bb_ BK107 hb
   replace BK108 := bb_ BK108 hb
   replace HB := bs_ HB hb
   (try clear hb)
   (try clear hb2)
   (try clear hk)
   (try clear hi)
   refine hK.out _ _ ⟨kc_ BK108 0, kc_ BK108 1, kc_ BK108 2, kc_ BK108 3⟩ (fun hHeld => ?_)
   clear hK K
   refine norm_ (a' := ?_) ?_ ?_
   rotate_left
   ·
    show Act.put _ (some 42) _ = _
    simp only [Act.put, List.setIfInBounds_toArray, List.set_cons_zero, List.set_cons_succ, i64_w, i32_w]
    rfl
   refine one_ (i := 9) (N := some 43) (bm_ 13 1023) rfl rfl (one_of HT_.out (by kernel_rfl)) (by decide) (fun K hK => ?_)
   refine gr_ Tryd.func41 #[.agg #[.int .u64 a0_1, .int .u64 a0_2], .agg #[.int .u64 t111, .int .u64 t112]] ?_
   with_reducible refine (num_Or.calls a0_1 a0_2 t111 t112 t113 t114 _ A21.out).mono ?_
   rintro e w57 ⟨rfl, hb⟩
   refine ⟨_, rfl, ?_⟩
   replace BK102 := bb_ BK102 hb
   replace BK103 := bb_ BK103 hb
   replace BK104 := bb_ BK104 hb
   replace BK107 := bb_ BK107 hb
   replace BK108 := bb_ BK108 hb
   replace HB := bs_ HB hb
   (try clear hb)
   (try clear hb2)
   (try clear hk)
   (try clear hi)
   refine hK.out _ _ ⟨kc_ BK108 0, kc_ BK108 1, kc_ BK108 2, kc_ BK108 3⟩ (fun hHeld => ?_)
   clear hK K
   refine norm_ (a' := ?_) ?_ ?_
   rotate_left
   ·
    show Act.put _ (some 43) _ = _
    simp only [Act.put, List.setIfInBounds_toArray, List.set_cons_zero, List.set_cons_succ, i64_w, i32_w]
    rfl
   refine pu_ 10 (some 44) (bm_ 13 2047) rfl HT_ ⟨by rfl, by intro w'; go_simp; with_reducible rfl⟩ ?_
   refine pu_ 11 (some 45) (bm_ 13 4095) rfl HT_ ⟨by rfl, by intro w'; go_simp; with_reducible rfl⟩ ?_
   refine last_ (i := 12) (N := none) (bm_ 13 8191) rfl rfl (one_of HT_.out (by kernel_rfl)) (by decide) (fun K hK => ?_)
   have hs58 : w57.cell? ⟨gb108, 1, none⟩ = some (.int .u64 a0_1) := kc_ BK108 1
   have hfs58 := blk_frozen BK108.out 1
   have hns58_0 := NB102_108.out
   have hns58_1 := NB103_108.out
   have hns58_2 := NB104_108.out
   have hns58_3 := NB107_108.out
   have hms58_0 := NB108_102.out
   have hms58_1 := NB108_103.out
   have hms58_2 := NB108_104.out
   have hms58_3 := NB108_107.out
   have hs59 : w57.cell? ⟨gb108, 2, none⟩ = some (.int .u64 a0_2) := kc_ BK108 2
   have hfs59 := blk_frozen BK108.out 2
   have hns59_0 := NB102_108.out
   have hns59_1 := NB103_108.out
   have hns59_2 := NB104_108.out
   have hns59_3 := NB107_108.out
   have hms59_0 := NB108_102.out
   have hms59_1 := NB108_103.out
   have hms59_2 := NB108_104.out
   have hms59_3 := NB108_107.out
   refine skip_ (w1 := ?_) (by rfl) rfl ?_ ?_
   rotate_left
   ·
    go_simp
    rfl
   refine hK.out _ _ ?_
   clear hK K
   refine done_ (done_of HT_.out (by kernel_rfl)) ?_
   try go_wp2
   have n0_ : Aside0 (((w57.setCell ⟨gb108, 1, none⟩ (.int .u64 t113)).setCell ⟨gb108, 2, none⟩ (.int .u64 t114)).heap[gb102]? = some (.cells #[.bool a0_0, .int .u64 a0_1, .int .u64 a0_2, .int .i64 a0_3] 43 (0, 0))) := ⟨by refine pw_ ?_; refine blk_far ?_ NB102_108.out _; refine pw_ ?_; refine blk_far ?_ NB102_108.out _; refine pw_ ?_; exact BK102.out⟩
   have n1_ : Aside0 (((w57.setCell ⟨gb108, 1, none⟩ (.int .u64 t113)).setCell ⟨gb108, 2, none⟩ (.int .u64 t114)).heap[gb103]? = some (.cells #[.bool false, .int .u64 0, .int .u64 0, .int .i64 0] 43 (0, 0))) := ⟨by refine pw_ ?_; refine blk_far ?_ NB103_108.out _; refine pw_ ?_; refine blk_far ?_ NB103_108.out _; refine pw_ ?_; exact BK103.out⟩
   have n2_ : Aside0 (((w57.setCell ⟨gb108, 1, none⟩ (.int .u64 t113)).setCell ⟨gb108, 2, none⟩ (.int .u64 t114)).heap[gb104]? = some (.cells #[.bool false, .int .u64 0, .int .u64 0, .int .i64 0] 43 (0, 0))) := ⟨by refine pw_ ?_; refine blk_far ?_ NB104_108.out _; refine pw_ ?_; refine blk_far ?_ NB104_108.out _; refine pw_ ?_; exact BK104.out⟩
   have n3_ : Aside0 (((w57.setCell ⟨gb108, 1, none⟩ (.int .u64 t113)).setCell ⟨gb108, 2, none⟩ (.int .u64 t114)).heap[gb107]? = some (.cells #[.bool a0_0, .int .u64 a0_1, .int .u64 a0_2, .int .i64 (wrap64 (a0_3 + 1))] 43 (0, 0))) := ⟨by refine pw_ ?_; refine blk_far ?_ NB107_108.out _; refine pw_ ?_; refine blk_far ?_ NB107_108.out _; refine pw_ ?_; exact BK107.out⟩
   have n4_ : Aside0 (((w57.setCell ⟨gb108, 1, none⟩ (.int .u64 t113)).setCell ⟨gb108, 2, none⟩ (.int .u64 t114)).heap[gb108]? = some (.cells #[.bool a0_0, .int .u64 t113, .int .u64 t114, .int .i64 (wrap64 (a0_3 + 1))] 43 (0, 0))) := ⟨by refine pw_ ?_; refine blk_put (cs := #[.bool a0_0, .int .u64 t113, .int .u64 a0_2, .int .i64 (wrap64 (a0_3 + 1))]) ?_ 2 _ rfl; refine pw_ ?_; refine blk_put (cs := #[.bool a0_0, .int .u64 a0_1, .int .u64 a0_2, .int .i64 (wrap64 (a0_3 + 1))]) ?_ 1 _ rfl; refine pw_ ?_; exact BK108.out⟩
   have n5_ : Aside0 (Below w.heap.size w ((w57.setCell ⟨gb108, 1, none⟩ (.int .u64 t113)).setCell ⟨gb108, 2, none⟩ (.int .u64 t114))) := ⟨pb_ HB⟩
   (try clear BK102)
   (try clear BK103)
   (try clear BK104)
   (try clear BK107)
   (try clear BK108)
   (try clear HB)
   generalize ((w57.setCell ⟨gb108, 1, none⟩ (.int .u64 t113)).setCell ⟨gb108, 2, none⟩ (.int .u64 t114)) = w60 at n0_ n1_ n2_ n3_ n4_ n5_ ⊢
   have BK102 := n0_
   have BK103 := n1_
   have BK104 := n2_
   have BK107 := n3_
   have BK108 := n4_
   have HB := n5_
   clear n0_ n1_ n2_ n3_ n4_ n5_
   replace BK102 := Aside0.mk (blk_drew BK102.out)
   replace BK103 := Aside0.mk (blk_drew BK103.out)
   replace BK104 := Aside0.mk (blk_drew BK104.out)
   replace BK107 := Aside0.mk (blk_drew BK107.out)
   replace BK108 := Aside0.mk (blk_drew BK108.out)
   replace HB := Aside0.mk (below_drew1 HB.out)
   refine start_ (n := 5) (S := fun w' => w'.cell? ⟨gb107, 0, none⟩ = some (.bool a0_0) ∧ w'.cell? ⟨gb107, 1, none⟩ = some (.int .u64 a0_1) ∧ w'.cell? ⟨gb107, 2, none⟩ = some (.int .u64 a0_2) ∧ w'.cell? ⟨gb107, 3, none⟩ = some (.int .i64 (wrap64 (a0_3 + 1))) ∧ w'.cell? ⟨gb108, 0, none⟩ = some (.bool a0_0) ∧ w'.cell? ⟨gb108, 1, none⟩ = some (.int .u64 t113) ∧ w'.cell? ⟨gb108, 2, none⟩ = some (.int .u64 t114) ∧ w'.cell? ⟨gb108, 3, none⟩ = some (.int .i64 (wrap64 (a0_3 + 1)))) (ds := []) #[false, false, false, false, false] (by kernel_rfl) rfl rfl ⟨kc_ BK107 0, kc_ BK107 1, kc_ BK107 2, kc_ BK107 3, kc_ BK108 0, kc_ BK108 1, kc_ BK108 2, kc_ BK108 3⟩ (fun hHeld => ?_)
   generalize w60.drew = w61 at BK102 BK103 BK104 BK107 BK108 HB hHeld ⊢
   refine take_ (i := 0) (N := some 46) (v := ?_) (a' := ?_) #[true, false, false, false, false] rfl rfl (by kernel_rfl) (fun _ _ _ h => h) (Or.inl ⟨by rfl, ?_⟩) hHeld ?_ ?_
   rotate_left
   ·
    rintro w' ⟨s0, s1, s2, s3, s4, s5, s6, s7⟩
    go_simp
    with_reducible rfl
   rotate_left
   ·
    simp only [Act.put, List.setIfInBounds_toArray, List.set_cons_zero, List.set_cons_succ, i64_w, i32_w]
    rfl
   refine take_ (i := 1) (N := some 47) (v := ?_) (a' := ?_) #[true, true, false, false, false] rfl rfl (by kernel_rfl) (fun _ _ _ h => h) (Or.inl ⟨by rfl, ?_⟩) hHeld ?_ ?_
   rotate_left
   ·
    rintro w' ⟨s0, s1, s2, s3, s4, s5, s6, s7⟩
    go_simp
    with_reducible rfl
   rotate_left
   ·
    simp only [Act.put, List.setIfInBounds_toArray, List.set_cons_zero, List.set_cons_succ, i64_w, i32_w]
    rfl
   refine one_ (i := 2) (N := none) #[true, true, true, false, false] rfl rfl (by kernel_rfl) (by decide) (fun K hK => ?_)
   have hs62 : w61.cell? ⟨gb103, 0, none⟩ = some (.bool false) := kc_ BK103 0
   have hfs62 := blk_frozen BK103.out 0
   have hns62_0 := NB102_103.out
   have hns62_2 := NB104_103.out
   have hns62_3 := NB107_103.out
   have hns62_4 := NB108_103.out
   have hms62_0 := NB103_102.out
   have hms62_2 := NB103_104.out
   have hms62_3 := NB103_107.out
   have hms62_4 := NB103_108.out
   have hs63 : w61.cell? ⟨gb103, 1, none⟩ = some (.int .u64 0) := kc_ BK103 1
   have hfs63 := blk_frozen BK103.out 1
   have hns63_0 := NB102_103.out
   have hns63_2 := NB104_103.out
   have hns63_3 := NB107_103.out
   have hns63_4 := NB108_103.out
   have hms63_0 := NB103_102.out
   have hms63_2 := NB103_104.out
   have hms63_3 := NB103_107.out
   have hms63_4 := NB103_108.out
   have hs64 : w61.cell? ⟨gb103, 2, none⟩ = some (.int .u64 0) := kc_ BK103 2
   have hfs64 := blk_frozen BK103.out 2
   have hns64_0 := NB102_103.out
   have hns64_2 := NB104_103.out
   have hns64_3 := NB107_103.out
   have hns64_4 := NB108_103.out
   have hms64_0 := NB103_102.out
   have hms64_2 := NB103_104.out
   have hms64_3 := NB103_107.out
   have hms64_4 := NB103_108.out
   have hs65 : w61.cell? ⟨gb103, 3, none⟩ = some (.int .i64 0) := kc_ BK103 3
   have hfs65 := blk_frozen BK103.out 3
   have hns65_0 := NB102_103.out
   have hns65_2 := NB104_103.out
   have hns65_3 := NB107_103.out
   have hns65_4 := NB108_103.out
   have hms65_0 := NB103_102.out
   have hms65_2 := NB103_104.out
   have hms65_3 := NB103_107.out
   have hms65_4 := NB103_108.out
   refine skip_ (w1 := ?_) (by rfl) rfl ?_ ?_
   rotate_left
   ·
    go_simp
    rfl
   refine hK.out _ _ ⟨((cell_far (p := ⟨gb103, _, none⟩) NB107_103.out _).trans (((cell_far (p := ⟨gb103, _, none⟩) NB107_103.out _).trans (((cell_far (p := ⟨gb103, _, none⟩) NB107_103.out _).trans (((cell_far (p := ⟨gb103, _, none⟩) NB107_103.out _).trans (hHeld.1)))))))), ((cell_far (p := ⟨gb103, _, none⟩) NB107_103.out _).trans (((cell_far (p := ⟨gb103, _, none⟩) NB107_103.out _).trans (((cell_far (p := ⟨gb103, _, none⟩) NB107_103.out _).trans (((cell_far (p := ⟨gb103, _, none⟩) NB107_103.out _).trans (hHeld.2.1)))))))), ((cell_far (p := ⟨gb103, _, none⟩) NB107_103.out _).trans (((cell_far (p := ⟨gb103, _, none⟩) NB107_103.out _).trans (((cell_far (p := ⟨gb103, _, none⟩) NB107_103.out _).trans (((cell_far (p := ⟨gb103, _, none⟩) NB107_103.out _).trans (hHeld.2.2.1)))))))), ((cell_far (p := ⟨gb103, _, none⟩) NB107_103.out _).trans (((cell_far (p := ⟨gb103, _, none⟩) NB107_103.out _).trans (((cell_far (p := ⟨gb103, _, none⟩) NB107_103.out _).trans (((cell_far (p := ⟨gb103, _, none⟩) NB107_103.out _).trans (hHeld.2.2.2.1)))))))), ((cell_far (p := ⟨gb103, _, none⟩) NB108_103.out _).trans (((cell_far (p := ⟨gb103, _, none⟩) NB108_103.out _).trans (((cell_far (p := ⟨gb103, _, none⟩) NB108_103.out _).trans (((cell_far (p := ⟨gb103, _, none⟩) NB108_103.out _).trans (hHeld.2.2.2.2.1)))))))), ((cell_far (p := ⟨gb103, _, none⟩) NB108_103.out _).trans (((cell_far (p := ⟨gb103, _, none⟩) NB108_103.out _).trans (((cell_far (p := ⟨gb103, _, none⟩) NB108_103.out _).trans (((cell_far (p := ⟨gb103, _, none⟩) NB108_103.out _).trans (hHeld.2.2.2.2.2.1)))))))), ((cell_far (p := ⟨gb103, _, none⟩) NB108_103.out _).trans (((cell_far (p := ⟨gb103, _, none⟩) NB108_103.out _).trans (((cell_far (p := ⟨gb103, _, none⟩) NB108_103.out _).trans (((cell_far (p := ⟨gb103, _, none⟩) NB108_103.out _).trans (hHeld.2.2.2.2.2.2.1)))))))), ((cell_far (p := ⟨gb103, _, none⟩) NB108_103.out _).trans (((cell_far (p := ⟨gb103, _, none⟩) NB108_103.out _).trans (((cell_far (p := ⟨gb103, _, none⟩) NB108_103.out _).trans (((cell_far (p := ⟨gb103, _, none⟩) NB108_103.out _).trans (hHeld.2.2.2.2.2.2.2))))))))⟩ (fun hHeld => ?_)
   clear hK K
   refine one_ (i := 3) (N := none) #[true, true, true, true, false] rfl rfl (by kernel_rfl) (by decide) (fun K hK => ?_)
   have hs66 : w61.cell? ⟨gb104, 0, none⟩ = some (.bool false) := kc_ BK104 0
   have hfs66 := blk_frozen BK104.out 0
   have hns66_0 := NB102_104.out
   have hns66_1 := NB103_104.out
   have hns66_3 := NB107_104.out
   have hns66_4 := NB108_104.out
   have hms66_0 := NB104_102.out
   have hms66_1 := NB104_103.out
   have hms66_3 := NB104_107.out
   have hms66_4 := NB104_108.out
   have hs67 : w61.cell? ⟨gb104, 1, none⟩ = some (.int .u64 0) := kc_ BK104 1
   have hfs67 := blk_frozen BK104.out 1
   have hns67_0 := NB102_104.out
   have hns67_1 := NB103_104.out
   have hns67_3 := NB107_104.out
   have hns67_4 := NB108_104.out
   have hms67_0 := NB104_102.out
   have hms67_1 := NB104_103.out
   have hms67_3 := NB104_107.out
   have hms67_4 := NB104_108.out
   have hs68 : w61.cell? ⟨gb104, 2, none⟩ = some (.int .u64 0) := kc_ BK104 2
   have hfs68 := blk_frozen BK104.out 2
   have hns68_0 := NB102_104.out
   have hns68_1 := NB103_104.out
   have hns68_3 := NB107_104.out
   have hns68_4 := NB108_104.out
   have hms68_0 := NB104_102.out
   have hms68_1 := NB104_103.out
   have hms68_3 := NB104_107.out
   have hms68_4 := NB104_108.out
   have hs69 : w61.cell? ⟨gb104, 3, none⟩ = some (.int .i64 0) := kc_ BK104 3
   have hfs69 := blk_frozen BK104.out 3
   have hns69_0 := NB102_104.out
   have hns69_1 := NB103_104.out
   have hns69_3 := NB107_104.out
   have hns69_4 := NB108_104.out
   have hms69_0 := NB104_102.out
   have hms69_1 := NB104_103.out
   have hms69_3 := NB104_107.out
   have hms69_4 := NB104_108.out
   refine skip_ (w1 := ?_) (by rfl) rfl ?_ ?_
   rotate_left
   ·
    go_simp
    rfl
   refine hK.out _ _ ⟨((cell_far (p := ⟨gb104, _, none⟩) NB107_104.out _).trans (((cell_far (p := ⟨gb104, _, none⟩) NB107_104.out _).trans (((cell_far (p := ⟨gb104, _, none⟩) NB107_104.out _).trans (((cell_far (p := ⟨gb104, _, none⟩) NB107_104.out _).trans (hHeld.1)))))))), ((cell_far (p := ⟨gb104, _, none⟩) NB107_104.out _).trans (((cell_far (p := ⟨gb104, _, none⟩) NB107_104.out _).trans (((cell_far (p := ⟨gb104, _, none⟩) NB107_104.out _).trans (((cell_far (p := ⟨gb104, _, none⟩) NB107_104.out _).trans (hHeld.2.1)))))))), ((cell_far (p := ⟨gb104, _, none⟩) NB107_104.out _).trans (((cell_far (p := ⟨gb104, _, none⟩) NB107_104.out _).trans (((cell_far (p := ⟨gb104, _, none⟩) NB107_104.out _).trans (((cell_far (p := ⟨gb104, _, none⟩) NB107_104.out _).trans (hHeld.2.2.1)))))))), ((cell_far (p := ⟨gb104, _, none⟩) NB107_104.out _).trans (((cell_far (p := ⟨gb104, _, none⟩) NB107_104.out _).trans (((cell_far (p := ⟨gb104, _, none⟩) NB107_104.out _).trans (((cell_far (p := ⟨gb104, _, none⟩) NB107_104.out _).trans (hHeld.2.2.2.1)))))))), ((cell_far (p := ⟨gb104, _, none⟩) NB108_104.out _).trans (((cell_far (p := ⟨gb104, _, none⟩) NB108_104.out _).trans (((cell_far (p := ⟨gb104, _, none⟩) NB108_104.out _).trans (((cell_far (p := ⟨gb104, _, none⟩) NB108_104.out _).trans (hHeld.2.2.2.2.1)))))))), ((cell_far (p := ⟨gb104, _, none⟩) NB108_104.out _).trans (((cell_far (p := ⟨gb104, _, none⟩) NB108_104.out _).trans (((cell_far (p := ⟨gb104, _, none⟩) NB108_104.out _).trans (((cell_far (p := ⟨gb104, _, none⟩) NB108_104.out _).trans (hHeld.2.2.2.2.2.1)))))))), ((cell_far (p := ⟨gb104, _, none⟩) NB108_104.out _).trans (((cell_far (p := ⟨gb104, _, none⟩) NB108_104.out _).trans (((cell_far (p := ⟨gb104, _, none⟩) NB108_104.out _).trans (((cell_far (p := ⟨gb104, _, none⟩) NB108_104.out _).trans (hHeld.2.2.2.2.2.2.1)))))))), ((cell_far (p := ⟨gb104, _, none⟩) NB108_104.out _).trans (((cell_far (p := ⟨gb104, _, none⟩) NB108_104.out _).trans (((cell_far (p := ⟨gb104, _, none⟩) NB108_104.out _).trans (((cell_far (p := ⟨gb104, _, none⟩) NB108_104.out _).trans (hHeld.2.2.2.2.2.2.2))))))))⟩ (fun hHeld => ?_)
   clear hK K
   refine pure_ (i := 4) (N := some 4) (v := ?_) (a' := ?_) #[true, true, true, true, true] rfl rfl (by kernel_rfl) (fun _ _ _ h => h) (Or.inl ⟨by rfl, ?_⟩) ?_ ?_
   rotate_left
   ·
    intro w'
    go_simp
    with_reducible rfl
   rotate_left
   ·
    simp only [Act.put, List.setIfInBounds_toArray, List.set_cons_zero, List.set_cons_succ, i64_w, i32_w]
    rfl
   refine done_ (by kernel_rfl) ?_
   try go_wp2
   refine bodyPost_ret (results_list (rs := [.cell 2 43, .cell 3 43, .tmp 4]) rfl (by simp) (.cell gb103 43 #[.bool a0_0, .int .u64 a0_1, .int .u64 a0_2, .int .i64 (wrap64 (a0_3 + 1))] (0, 0) _ rfl (by refine pw_ ?_; refine blk_far ?_ NB103_104.out _; refine pw_ ?_; refine blk_far ?_ NB103_104.out _; refine pw_ ?_; refine blk_far ?_ NB103_104.out _; refine pw_ ?_; refine blk_far ?_ NB103_104.out _; refine pw_ ?_; refine blk_put (cs := #[.bool a0_0, .int .u64 a0_1, .int .u64 a0_2, .int .i64 0]) ?_ 3 _ rfl; refine pw_ ?_; refine blk_put (cs := #[.bool a0_0, .int .u64 a0_1, .int .u64 0, .int .i64 0]) ?_ 2 _ rfl; refine pw_ ?_; refine blk_put (cs := #[.bool a0_0, .int .u64 0, .int .u64 0, .int .i64 0]) ?_ 1 _ rfl; refine pw_ ?_; refine blk_put (cs := #[.bool false, .int .u64 0, .int .u64 0, .int .i64 0]) ?_ 0 _ rfl; refine pw_ ?_; exact BK103.out) Tryd.underlying43 rfl (by kernel_rfl) (.cell gb104 43 #[.bool a0_0, .int .u64 t113, .int .u64 t114, .int .i64 (wrap64 (a0_3 + 1))] (0, 0) _ rfl (by refine pw_ ?_; refine blk_put (cs := #[.bool a0_0, .int .u64 t113, .int .u64 t114, .int .i64 0]) ?_ 3 _ rfl; refine pw_ ?_; refine blk_put (cs := #[.bool a0_0, .int .u64 t113, .int .u64 0, .int .i64 0]) ?_ 2 _ rfl; refine pw_ ?_; refine blk_put (cs := #[.bool a0_0, .int .u64 0, .int .u64 0, .int .i64 0]) ?_ 1 _ rfl; refine pw_ ?_; refine blk_put (cs := #[.bool false, .int .u64 0, .int .u64 0, .int .i64 0]) ?_ 0 _ rfl; refine pw_ ?_; refine blk_far ?_ NB104_103.out _; refine pw_ ?_; refine blk_far ?_ NB104_103.out _; refine pw_ ?_; refine blk_far ?_ NB104_103.out _; refine pw_ ?_; refine blk_far ?_ NB104_103.out _; refine pw_ ?_; exact BK104.out) Tryd.underlying43 rfl (by kernel_rfl) (.tmp .nil)))) rfl ?_
   exact ⟨by first | rfl | (simp [errW_none, errW_some] <;> rfl) | (simp [*, errW_none, errW_some] <;> rfl), pb_ HB⟩
 ·
  replace c4 := Bool.eq_false_iff.mpr c4
  subst c4
  have H1 : (some (false, 0, 0, 0, false, 0, 0, 0, 1)) = some (r1, r2, r3, r4, r5, r6, r7, r8, r9) := by rw [if_neg (show ¬ (false = true) by decide)] at H; exact H
  clear H
  have H := H1
  clear H1
  simp only [Option.some.injEq, Prod.mk.injEq] at H
  obtain ⟨rfl, rfl, rfl, rfl, rfl, rfl, rfl, rfl, rfl⟩ := H
  go_enter Tryd.func52, Tryd.ntmps52
  go_wp2_with (first | ((with_reducible refine gate_dst (N := 1) rfl ?_); refine bx_ 1 #[.bool a0_0, .int .u64 a0_1, .int .u64 a0_2, .int .i64 a0_3] 43 ?_; intro gb102 hg w70 hbox hb; have BK102 := Aside0.mk (hbox); have GW102 := gw_ HB hg; have GE102 := gw_ HB hg; replace HB := bs_ HB hb; clear hb hbox hg) | ((with_reducible refine gate_dst (N := 2) rfl ?_); refine bx_ 2 #[.bool false, .int .u64 0, .int .u64 0, .int .i64 0] 43 ?_; intro gb103 hg w71 hbox hb; have BK103 := Aside0.mk (hbox); have GW103 := gw_ HB hg; have GE103 := gw_ HB hg; have NB102_103 := nl_ BK102 hg; have NB103_102 := ng_ BK102 hg; replace BK102 := bb_ BK102 hb; replace HB := bs_ HB hb; clear hb hbox hg) | ((with_reducible refine gate_dst (N := 3) rfl ?_); refine bx_ 3 #[.bool false, .int .u64 0, .int .u64 0, .int .i64 0] 43 ?_; intro gb104 hg w72 hbox hb; have BK104 := Aside0.mk (hbox); have GW104 := gw_ HB hg; have GE104 := gw_ HB hg; have NB102_104 := nl_ BK102 hg; have NB104_102 := ng_ BK102 hg; have NB103_104 := nl_ BK103 hg; have NB104_103 := ng_ BK103 hg; replace BK102 := bb_ BK102 hb; replace BK103 := bb_ BK103 hb; replace HB := bs_ HB hb; clear hb hbox hg; have hnb73 := NB102_103.out; have hnc73 := NB103_102.out; have hnb74 := NB102_104.out; have hnc74 := NB104_102.out; obtain ⟨hcz75_0, hcz75_1, hcz75_2, hcz75_3, hfz75_0, hfz75_1, hfz75_2, hfz75_3⟩ := c4_ BK102) | ((with_reducible refine gate_callee (f := 44) rfl ?_); refine gl_ (some 10) Tryd.func44 #[.agg #[.bool a0_0, .int .u64 a0_1, .int .u64 a0_2]] ?_; (with_reducible refine (addr_Width.calls a0_0 a0_1 a0_2 t105 _ A2.out).mono ?_); rintro e w76 ⟨rfl, hb⟩; refine ⟨_, rfl, ?_⟩; replace BK102 := bb_ BK102 hb; replace BK103 := bb_ BK103 hb; replace BK104 := bb_ BK104 hb; replace HB := bs_ HB hb; (try clear hb); (try clear hb2); (try clear hk); (try clear hi); obtain ⟨hcz77_0, hcz77_1, hcz77_2, hcz77_3, hfz77_0, hfz77_1, hfz77_2, hfz77_3⟩ := c4_ BK102) | ((with_reducible refine gate_callee (f := 54) rfl ?_); refine gl_ (some 13) Tryd.func54 #[.agg #[.bool a0_0, .int .u64 a0_1, .int .u64 a0_2, .int .i64 a0_3]] ?_; (with_reducible refine (prefix_Right.calls a0_0 a0_1 a0_2 a0_3 false _ A3.out).mono ?_); rintro e w78 ⟨rfl, hb⟩; refine ⟨_, rfl, ?_⟩; replace BK102 := bb_ BK102 hb; replace BK103 := bb_ BK103 hb; replace BK104 := bb_ BK104 hb; replace HB := bs_ HB hb; (try clear hb); (try clear hb2); (try clear hk); (try clear hi); have hnb79 := NB103_104.out; have hnc79 := NB104_103.out; obtain ⟨hcz80_0, hcz80_1, hcz80_2, hcz80_3, hfz80_0, hfz80_1, hfz80_2, hfz80_3⟩ := c4_ BK103; obtain ⟨hcz81_0, hcz81_1, hcz81_2, hcz81_3, hfz81_0, hfz81_1, hfz81_2, hfz81_3⟩ := c4_ BK104))
  refine bodyPost_ret (results_list (rs := [.cell 2 43, .cell 3 43, .tmp 4]) rfl (by simp) (.cell gb103 43 #[.bool false, .int .u64 0, .int .u64 0, .int .i64 0] (0, 0) _ rfl (by refine pw_ ?_; refine blk_far ?_ NB103_104.out _; refine pw_ ?_; refine blk_far ?_ NB103_104.out _; refine pw_ ?_; refine blk_far ?_ NB103_104.out _; refine pw_ ?_; refine blk_far ?_ NB103_104.out _; refine pw_ ?_; refine blk_put (cs := #[.bool false, .int .u64 0, .int .u64 0, .int .i64 0]) ?_ 3 _ rfl; refine pw_ ?_; refine blk_put (cs := #[.bool false, .int .u64 0, .int .u64 0, .int .i64 0]) ?_ 2 _ rfl; refine pw_ ?_; refine blk_put (cs := #[.bool false, .int .u64 0, .int .u64 0, .int .i64 0]) ?_ 1 _ rfl; refine pw_ ?_; refine blk_put (cs := #[.bool false, .int .u64 0, .int .u64 0, .int .i64 0]) ?_ 0 _ rfl; refine pw_ ?_; exact BK103.out) Tryd.underlying43 rfl (by kernel_rfl) (.cell gb104 43 #[.bool false, .int .u64 0, .int .u64 0, .int .i64 0] (0, 0) _ rfl (by refine pw_ ?_; refine blk_put (cs := #[.bool false, .int .u64 0, .int .u64 0, .int .i64 0]) ?_ 3 _ rfl; refine pw_ ?_; refine blk_put (cs := #[.bool false, .int .u64 0, .int .u64 0, .int .i64 0]) ?_ 2 _ rfl; refine pw_ ?_; refine blk_put (cs := #[.bool false, .int .u64 0, .int .u64 0, .int .i64 0]) ?_ 1 _ rfl; refine pw_ ?_; refine blk_put (cs := #[.bool false, .int .u64 0, .int .u64 0, .int .i64 0]) ?_ 0 _ rfl; refine pw_ ?_; refine blk_far ?_ NB104_103.out _; refine pw_ ?_; refine blk_far ?_ NB104_103.out _; refine pw_ ?_; refine blk_far ?_ NB104_103.out _; refine pw_ ?_; refine blk_far ?_ NB104_103.out _; refine pw_ ?_; exact BK104.out) Tryd.underlying43 rfl (by kernel_rfl) (.tmp .nil)))) rfl ?_
  exact ⟨by first | rfl | (simp [errW_none, errW_some] <;> rfl) | (simp [*, errW_none, errW_some] <;> rfl), pb_ HB⟩

def prefix_Print.f (a0_0 : Bool) (a0_1 : Int) (a0_2 : Int) (a0_3 : Int) : Option (ByteArray) := (prefix_Right.f a0_0 a0_1 a0_2 a0_3).bind fun t116 => (if t116 = true then ((addr_Print.f a0_0 a0_1 a0_2).bind fun t117 => (if t117.size + 1 ≤ 9223372036854775807 then ((strconv_Itoa.f a0_3).bind fun t118 => (if (t117 ++ (⟨#[47]⟩ : ByteArray)).size + t118.size ≤ 9223372036854775807 then (some ((t117 ++ (⟨#[47]⟩ : ByteArray)) ++ t118)) else (none))) else (none))) else (some (⟨#[]⟩ : ByteArray)))
def prefix_Print.T3 : Bool × List (List Nat × List Nat) := (true, [([], []), ([0], [0]), ([1], [1]), ([2], [2]), ([], []), ([4], [4]), ([5, 2], [5]), ([3, 6], [3, 6]), ([7, 6, 0, 1, 2, 3, 4, 5, 6, 7], [7])])
def prefix_Print.B3 : List Nat := [0, 1, 3, 7, 0, 16, 55, 127, 255]
theorem prefix_Print.tab3 : rtab .any (opsOf Tryd.f53 3) = prefix_Print.T3 := by kernel_rfl
theorem prefix_Print.bits3 : waitsOk prefix_Print.T3.2 prefix_Print.B3 = true := by kernel_rfl
set_option maxHeartbeats 8000000 in
set_option maxRecDepth 100000 in
theorem prefix_Print.calls (a0_0 : Bool) (a0_1 : Int) (a0_2 : Int) (a0_3 : Int) (r : ByteArray) (w : World) (hG : Glob w) (h : prefix_Print.f a0_0 a0_1 a0_2 a0_3 = some r) :
  Calls Tryd.prog 53 #[.agg #[.bool a0_0, .int .u64 a0_1, .int .u64 a0_2, .int .i64 a0_3]] w fun e w' => e = .returned (.string r) ∧ Below w.heap.size w w' := by
 have hu43 := Tryd.underlying43
 have hu26 := Tryd.underlying26
 have HGLB := Aside0.mk hG
 clear hG
 have HB := Aside0.mk (Below.refl w.heap.size w)
 have H : ((prefix_Right.f a0_0 a0_1 a0_2 a0_3).bind fun t116 => (if t116 = true then ((addr_Print.f a0_0 a0_1 a0_2).bind fun t117 => (if t117.size + 1 ≤ 9223372036854775807 then ((strconv_Itoa.f a0_3).bind fun t118 => (if (t117 ++ (⟨#[47]⟩ : ByteArray)).size + t118.size ≤ 9223372036854775807 then (some ((t117 ++ (⟨#[47]⟩ : ByteArray)) ++ t118)) else (none))) else (none))) else (some (⟨#[]⟩ : ByteArray)))) = some r := h
 clear h
 replace H := Option.bind_eq_some_iff.mp H
 obtain ⟨t116, A20, H⟩ := H
 replace H : (if t116 = true then ((addr_Print.f a0_0 a0_1 a0_2).bind fun t117 => (if t117.size + 1 ≤ 9223372036854775807 then ((strconv_Itoa.f a0_3).bind fun t118 => (if (t117 ++ (⟨#[47]⟩ : ByteArray)).size + t118.size ≤ 9223372036854775807 then (some ((t117 ++ (⟨#[47]⟩ : ByteArray)) ++ t118)) else (none))) else (none))) else (some (⟨#[]⟩ : ByteArray))) = some r := H
 have A2 := Aside0.mk A20
 clear A20
 by_cases c3 : t116 = true
 ·
  subst c3
  rw [if_pos rfl] at H
  replace H := Option.bind_eq_some_iff.mp H
  obtain ⟨t117, A40, H⟩ := H
  replace H : (if t117.size + 1 ≤ 9223372036854775807 then ((strconv_Itoa.f a0_3).bind fun t118 => (if (t117 ++ (⟨#[47]⟩ : ByteArray)).size + t118.size ≤ 9223372036854775807 then (some ((t117 ++ (⟨#[47]⟩ : ByteArray)) ++ t118)) else (none))) else (none)) = some r := H
  have A4 := Aside0.mk A40
  clear A40
  by_cases c5 : t117.size + 1 ≤ 9223372036854775807
  ·
   rw [if_pos c5] at H
   have c5b0 := eq_true c5
   have c5b1 : decide (t117.size + 1 ≤ 9223372036854775807) = true := decide_eq_true c5
   try have c5b2 : (9223372036854775807 < t117.size + 1) = False := eq_false (Nat.not_lt.2 c5)
   replace H := Option.bind_eq_some_iff.mp H
   obtain ⟨t118, A60, H⟩ := H
   replace H : (if (t117 ++ (⟨#[47]⟩ : ByteArray)).size + t118.size ≤ 9223372036854775807 then (some ((t117 ++ (⟨#[47]⟩ : ByteArray)) ++ t118)) else (none)) = some r := H
   have A6 := Aside0.mk A60
   clear A60
   by_cases c7 : (t117 ++ (⟨#[47]⟩ : ByteArray)).size + t118.size ≤ 9223372036854775807
   ·
    rw [if_pos c7] at H
    have c7b0 := eq_true c7
    have c7b1 : decide ((t117 ++ (⟨#[47]⟩ : ByteArray)).size + t118.size ≤ 9223372036854775807) = true := decide_eq_true c7
    try have c7b2 : (9223372036854775807 < (t117 ++ (⟨#[47]⟩ : ByteArray)).size + t118.size) = False := eq_false (Nat.not_lt.2 c7)
    (try (have c7b3 := of_eq_false c7b2; simp only [ByteArray.size_append, show (⟨#[47]⟩ : ByteArray).size = 1 from rfl] at c7b3; replace c7b3 := eq_false c7b3))
    obtain rfl := Option.some.inj H
    go_enter Tryd.func53, Tryd.ntmps53
    try go_wp2_with (first | ((with_reducible refine gate_dst (N := 1) rfl ?_); refine bx_ 1 #[.bool a0_0, .int .u64 a0_1, .int .u64 a0_2, .int .i64 a0_3] 43 ?_; intro gb115 hg w8 hbox hb; have BK115 := Aside0.mk (hbox); have GW115 := gw_ HB hg; have GE115 := gw_ HB hg; replace HB := bs_ HB hb; clear hb hbox hg; obtain ⟨hcz9_0, hcz9_1, hcz9_2, hcz9_3, hfz9_0, hfz9_1, hfz9_2, hfz9_3⟩ := c4_ BK115) | ((with_reducible refine gate_callee (f := 54) rfl ?_); refine gl_ (some 4) Tryd.func54 #[.agg #[.bool a0_0, .int .u64 a0_1, .int .u64 a0_2, .int .i64 a0_3]] ?_; (with_reducible refine (prefix_Right.calls a0_0 a0_1 a0_2 a0_3 true _ A2.out).mono ?_); rintro e w10 ⟨rfl, hb⟩; refine ⟨_, rfl, ?_⟩; replace BK115 := bb_ BK115 hb; replace HB := bs_ HB hb; (try clear hb); (try clear hb2); (try clear hk); (try clear hi)))
    replace BK115 := Aside0.mk (blk_drew BK115.out)
    replace HB := Aside0.mk (below_drew1 HB.out)
    refine start_ (n := 9) (S := fun w' => w'.cell? ⟨gb115, 0, none⟩ = some (.bool a0_0) ∧ w'.cell? ⟨gb115, 1, none⟩ = some (.int .u64 a0_1) ∧ w'.cell? ⟨gb115, 2, none⟩ = some (.int .u64 a0_2) ∧ w'.cell? ⟨gb115, 3, none⟩ = some (.int .i64 a0_3)) (ds := []) (bm_ 9 0) (by kernel_rfl) rfl rfl ⟨kc_ BK115 0, kc_ BK115 1, kc_ BK115 2, kc_ BK115 3⟩ (fun hHeld => ?_); refine with_tabW prefix_Print.tab3 prefix_Print.bits3 (fun HT_ HW_ => ?_)
    generalize w10.drew = w11 at BK115 HB hHeld ⊢
    refine pu_ 0 (some 6) (bm_ 9 1) rfl HT_ ⟨by rfl, by intro w'; go_simp; with_reducible rfl⟩ ?_
    refine pu_ 4 (some 10) (bm_ 9 17) rfl HT_ ⟨by rfl, by intro w'; go_simp; with_reducible rfl⟩ ?_
    refine ta_ 1 (some 7) (bm_ 9 19) rfl HT_ HW_ ⟨by rfl, by rintro w' ⟨s0, s1, s2, s3⟩; go_simp; with_reducible rfl⟩ hHeld ?_
    refine ta_ 5 (some 11) (bm_ 9 51) rfl HT_ HW_ ⟨by rfl, by rintro w' ⟨s0, s1, s2, s3⟩; go_simp; with_reducible rfl⟩ hHeld ?_
    refine one_ (i := 2) (N := some 8) (bm_ 9 55) rfl rfl (one_of HT_.out (by kernel_rfl)) (by decide) (fun K hK => ?_)
    refine gr_ Tryd.func9 #[.agg #[.bool a0_0, .int .u64 a0_1, .int .u64 a0_2]] ?_
    with_reducible refine (addr_Print.calls a0_0 a0_1 a0_2 t117 _ ?side1 A4.out).mono ?_
    (case side1 => exact glob_keep HGLB.out (pb_ HB))
    rintro e w12 ⟨rfl, hb⟩
    refine ⟨_, rfl, ?_⟩
    replace BK115 := bb_ BK115 hb
    replace HB := bs_ HB hb
    (try clear hb)
    (try clear hb2)
    (try clear hk)
    (try clear hi)
    refine hK.out _ _ ⟨kc_ BK115 0, kc_ BK115 1, kc_ BK115 2, kc_ BK115 3⟩ (fun hHeld => ?_)
    clear hK K
    refine norm_ (a' := ?_) ?_ ?_
    rotate_left
    ·
     show Act.put _ (some 8) _ = _
     simp only [Act.put, List.setIfInBounds_toArray, List.set_cons_zero, List.set_cons_succ, i64_w, i32_w]
     rfl
    refine pu_ 3 (some 9) (bm_ 9 63) rfl HT_ ⟨by rfl, by intro w'; go_simp; with_reducible rfl⟩ ?_
    refine one_ (i := 6) (N := some 12) (bm_ 9 127) rfl rfl (one_of HT_.out (by kernel_rfl)) (by decide) (fun K hK => ?_)
    refine gr_ Tryd.func57 #[.int .i64 a0_3] ?_
    with_reducible refine (strconv_Itoa.calls a0_3 t118 _ ?side1 A6.out).mono ?_
    (case side1 => exact glob_keep HGLB.out (pb_ HB))
    rintro e w13 ⟨rfl, hb⟩
    refine ⟨_, rfl, ?_⟩
    replace BK115 := bb_ BK115 hb
    replace HB := bs_ HB hb
    (try clear hb)
    (try clear hb2)
    (try clear hk)
    (try clear hi)
    refine hK.out _ _ ⟨kc_ BK115 0, kc_ BK115 1, kc_ BK115 2, kc_ BK115 3⟩ (fun hHeld => ?_)
    clear hK K
    refine norm_ (a' := ?_) ?_ ?_
    rotate_left
    ·
     show Act.put _ (some 12) _ = _
     simp only [Act.put, List.setIfInBounds_toArray, List.set_cons_zero, List.set_cons_succ, i64_w, i32_w]
     rfl
    refine pu_ 7 (some 13) (bm_ 9 255) rfl HT_ ⟨by rfl, by intro w'; go_simp; with_reducible rfl⟩ ?_
    refine pu_ 8 (some 2) (bm_ 9 511) rfl HT_ ⟨by rfl, by intro w'; go_simp; with_reducible rfl⟩ ?_
    refine done_ (done_of HT_.out (by kernel_rfl)) ?_
    try go_wp2
    go_ret
    exact ⟨by first | rfl | (simp [errW_none, errW_some] <;> rfl) | (simp [*, errW_none, errW_some] <;> rfl), pb_ HB⟩
   ·
    rw [if_neg c7] at H
    exact absurd H (by simp)
  ·
   rw [if_neg c5] at H
   exact absurd H (by simp)
 ·
  replace c3 := Bool.eq_false_iff.mpr c3
  subst c3
  have H1 : (some (⟨#[]⟩ : ByteArray)) = some r := by rw [if_neg (show ¬ (false = true) by decide)] at H; exact H
  clear H
  have H := H1
  clear H1
  obtain rfl := Option.some.inj H
  go_enter Tryd.func53, Tryd.ntmps53
  go_wp2_with (first | ((with_reducible refine gate_dst (N := 1) rfl ?_); refine bx_ 1 #[.bool a0_0, .int .u64 a0_1, .int .u64 a0_2, .int .i64 a0_3] 43 ?_; intro gb115 hg w14 hbox hb; have BK115 := Aside0.mk (hbox); have GW115 := gw_ HB hg; have GE115 := gw_ HB hg; replace HB := bs_ HB hb; clear hb hbox hg; obtain ⟨hcz15_0, hcz15_1, hcz15_2, hcz15_3, hfz15_0, hfz15_1, hfz15_2, hfz15_3⟩ := c4_ BK115) | ((with_reducible refine gate_callee (f := 54) rfl ?_); refine gl_ (some 4) Tryd.func54 #[.agg #[.bool a0_0, .int .u64 a0_1, .int .u64 a0_2, .int .i64 a0_3]] ?_; (with_reducible refine (prefix_Right.calls a0_0 a0_1 a0_2 a0_3 false _ A2.out).mono ?_); rintro e w16 ⟨rfl, hb⟩; refine ⟨_, rfl, ?_⟩; replace BK115 := bb_ BK115 hb; replace HB := bs_ HB hb; (try clear hb); (try clear hb2); (try clear hk); (try clear hi)))
  go_ret
  exact ⟨by first | rfl | (simp [errW_none, errW_some] <;> rfl) | (simp [*, errW_none, errW_some] <;> rfl), pb_ HB⟩

end Go.Proofs.YtgdgklibilddgaaDoor.PPr

