/-
A part of the proof of blocksNil_card: its lemmas and walks, part 2. No condition.
-/
import Derived.Deep.Cut
import Derived.Test.YtpfilldnfpcpkaaGreatDoorBnlM1
set_option linter.unusedVariables false
set_option linter.unusedSimpArgs false
namespace Go.Proofs.YtpfilldnfpcpkaaGreatDoor
open Go.RowKit

theorem runAt_long : ∀ (d n : Nat) (z : List Bool), (∀ j, n ≤ j → j < n + d → z[j]? = some true) → d ≤ runAt (z.drop n)
  | 0, _, _, _ => Nat.zero_le _
  | d + 1, n, z, h1 => by
    have h0 := h1 n (Nat.le_refl _) (by omega)
    obtain ⟨hi, e⟩ := List.getElem?_eq_some_iff.1 h0
    rw [List.drop_eq_getElem_cons hi, e, runAt]
    have := runAt_long d (n + 1) z (fun j a b => h1 j (by omega) (by omega))
    omega
theorem run_exit {G : List Nat} {i k x : Nat} (hrun : runAt ((zeros G).drop i) = k - i) (hik : i ≤ k) (hall : ∀ j, i ≤ j → j < k → (zeros G)[j]? = some true) (hx : G[k]? = some x) : x ≠ 0 := by
  intro e
  subst e
  have := runAt_long (k + 1 - i) i (zeros G) (fun j a b => by
    by_cases e : j = k
    · subst e; rw [zeros_at hx]; rfl
    · exact hall j a (by omega))
  omega
theorem u16_at {G : List Nat} {k x : Nat} (h : G[k]? = some x) : (u16V G).toArray[k]? = some (.int .u16 (x : Nat)) := by unfold u16V; simp [h]
set_option maxRecDepth 100000 in
set_option maxHeartbeats 3200000 in
theorem row_c (G : List Nat) (w : World) (hl : G.length = 8) (hG : ∀ g ∈ G, g < 65536) :
    Calls Tryz.prog 117 #[.agg (u16V G).toArray] w fun e w' => e = .returned (.tuple #[.int .i64 ((progRow (zeros G)).1 : Nat), .int .i64 ((progRow (zeros G)).2 : Nat)]) ∧ Below w.heap.size w w' := by
  have hzl : (zeros G).length = 8 := by rw [zeros_len, hl]
  have HZL := Lib.hid hzl
  have HL := Lib.hid hl
  have HLT := Lib.hid hG
  clear hzl hl hG
  go_enter Tryz.func117, Tryz.ntmps117
  go_wp2_with fail
  have hA : Blk (w.alloc (Obj.cells ((u16V G).toArray) 149)) (w.heap.size) 149 ((u16V G).toArray) := (Blk.new' _ _ _ _ (by simp) : Blk (w.alloc (Obj.cells ((u16V G).toArray) 149)) (w.heap.size) 149 ((u16V G).toArray))
  have hbel : Below w.heap.size w (w.alloc (Obj.cells ((u16V G).toArray) 149)) := bl_
  have hsz : (w.alloc (Obj.cells ((u16V G).toArray) 149)).heap.size = w.heap.size + 1 := by simp
  generalize w.alloc (Obj.cells ((u16V G).toArray) 149) = w0 at *
  go_loopw [4, 5, 6] (fun vf vt vi wr => ∃ i : Nat, i ≤ 8 ∧ vi = .int .i64 i ∧ vf = .int .i64 ((progAt (zeros G) i).1 : Nat) ∧ vt = .int .i64 ((progAt (zeros G) i).2 : Nat) ∧ Blk wr w.heap.size 149 (u16V G).toArray ∧ Below w.heap.size w wr) (fun _ _ i _ => 8 - (intOf i).toNat)
  case atStart => exact ⟨0, by omega, rfl, rfl, rfl, hA, hbel⟩
  case round =>
    clear hA hbel
    obtain ⟨i, hi, rfl, rfl, rfl, hA, hbel⟩ := hrel
    by_cases hlt : i < 8
    · have d1 : (i : Int) < 8 := by omega
      go_wp2_with fail
      go_loopw [7] (fun vk wr => ∃ k : Nat, i ≤ k ∧ k ≤ 8 ∧ vk = .int .i64 k ∧ (∀ j, i ≤ j → j < k → (zeros G)[j]? = some true) ∧ Blk wr w.heap.size 149 (u16V G).toArray ∧ Below w.heap.size w wr) (fun k _ => 8 - (intOf k).toNat)
      case atStart => exact ⟨i, by omega, by omega, rfl, fun j a b => absurd b (by omega), hA, hbel⟩
      case round =>
        clear hA hbel
        obtain ⟨k, hik, hk, rfl, hall, hA, hbel⟩ := hrel
        have HALL := Lib.hid hall
        clear hall
        have key : (k < 8 ∧ (zeros G)[k]? = some true) ∨ (runAt ((zeros G).drop i) = k - i) := by
          by_cases h8 : k < 8
          · by_cases hz : (zeros G)[k]? = some true
            · exact .inl ⟨h8, hz⟩
            · exact .inr (runAt_is (k - i) i (fun j a b => HALL.out j a (by omega)) (by rw [show i + (k - i) = k by omega]; exact hz))
          · refine .inr (runAt_is (k - i) i (fun j a b => HALL.out j a (by omega)) ?_)
            rw [show i + (k - i) = k by omega, List.getElem?_eq_none (by rw [HZL.out]; omega)]
            simp
        have hrd : ∀ h : k < 8, ∃ x, G[k]? = some x ∧ x < 65536 := fun h => ⟨_, List.getElem?_eq_getElem (by rw [HL.out]; exact h), HLT.out _ (List.getElem_mem _)⟩
        rcases key with ⟨h8, hz⟩ | hrun
        · have d2 : (k : Int) < 8 := by omega
          obtain ⟨x, hx, hx6⟩ := hrd h8
          have hxz : x = 0 := by
            rw [zeros_at hx] at hz
            simpa using hz
          subst hxz
          have c0 := (hA.cell k).trans (u16_at hx)
          have HNEXT : Hid (∀ j, i ≤ j → j < k + 1 → (zeros G)[j]? = some true) := Lib.hid (fun j a b => by
            by_cases e : j = k
            · subst e; exact hz
            · exact HALL.out j a (by omega))
          clear hz hx hrd
          go_wp2_with fail
          go_roundw
          case rel => exact ⟨k + 1, by omega, by omega, by go_num, HNEXT.out, bk_, bl_⟩
          case measure => simp [intOf]; omega
        · have hex : k = 8 ∨ (k < 8 ∧ ∃ x, G[k]? = some x ∧ x < 65536 ∧ x ≠ 0) := by
            by_cases h8 : k < 8
            · obtain ⟨x, hx, hx6⟩ := hrd h8
              exact .inr ⟨h8, x, hx, hx6, run_exit hrun hik HALL.out hx⟩
            · exact .inl (by omega)
          clear hrd
          have HEX := Lib.hid hex
          clear hex
          have hst : progAt (zeros G) (i + 1) = if (progAt (zeros G) i).2 - (progAt (zeros G) i).1 < k - i ∧ 1 < k - i then (i, k) else progAt (zeros G) i := by
            rw [progAt_succ]
            unfold stepRow
            rw [hrun, show i + (k - i) = k by omega]
          have HST := Lib.hid hst
          obtain ⟨hb1, hb2⟩ := progAt_bd (z := zeros G) HZL.out i (by omega)
          generalize progAt (zeros G) i = p at *
          obtain ⟨f, t⟩ := p
          simp only at hb1 hb2
          have hc : (((t : Int) - f < (k : Int) - i ∧ (1 : Int) < (k : Int) - i) ∧ (progAt (zeros G) (i + 1)).1 = i ∧ (progAt (zeros G) (i + 1)).2 = k) ∨ ((t : Int) - f < (k : Int) - i ∧ ¬ (1 : Int) < (k : Int) - i ∧ (progAt (zeros G) (i + 1)).1 = f ∧ (progAt (zeros G) (i + 1)).2 = t) ∨ (¬ (t : Int) - f < (k : Int) - i ∧ (progAt (zeros G) (i + 1)).1 = f ∧ (progAt (zeros G) (i + 1)).2 = t) := by
            rw [HST.out]
            simp only
            by_cases q1 : t - f < k - i
            · by_cases q2 : 1 < k - i
              · rw [if_pos ⟨q1, q2⟩]; exact .inl ⟨⟨by omega, by omega⟩, rfl, rfl⟩
              · rw [if_neg (fun q => q2 q.2)]; exact .inr (.inl ⟨by omega, by omega, rfl, rfl⟩)
            · rw [if_neg (fun q => q1 q.1)]; exact .inr (.inr ⟨by omega, rfl, rfl⟩)
          clear hst hrun HALL
          rcases HEX.out with rfl | ⟨h8, x, hx, hx6, hx0⟩
          · have d2 : ¬ (8 : Int) < 8 := by omega
            rcases hc with ⟨⟨d3, d4⟩, e1, e2⟩ | ⟨d3, d4, e1, e2⟩ | ⟨d3, e1, e2⟩
            all_goals
              have E1 := Lib.hid e1
              have E2 := Lib.hid e2
              clear e1 e2
              go_wp2_with fail
              go_roundw
              case rel => exact ⟨i + 1, by omega, by go_num, by first | (rw [E1.out]; done) | (rw [E1.out]; rfl), by first | (rw [E2.out]; done) | (rw [E2.out]; rfl), bk_, bl_⟩
              case measure => simp [intOf]; omega
          · have d2 : (k : Int) < 8 := by omega
            have c0 := (hA.cell k).trans (u16_at hx)
            have d5 : ((x : Int) == 0) = false := by simp; omega
            clear hx
            rcases hc with ⟨⟨d3, d4⟩, e1, e2⟩ | ⟨d3, d4, e1, e2⟩ | ⟨d3, e1, e2⟩
            all_goals
              have E1 := Lib.hid e1
              have E2 := Lib.hid e2
              clear e1 e2
              go_wp2_with fail
              go_roundw
              case rel => exact ⟨i + 1, by omega, by go_num, by first | (rw [E1.out]; done) | (rw [E1.out]; rfl), by first | (rw [E2.out]; done) | (rw [E2.out]; rfl), bk_, bl_⟩
              case measure => simp [intOf]; omega
    · obtain rfl : i = 8 := by omega
      have d1 : ¬ (8 : Int) < 8 := by omega
      have he : progAt (zeros G) 8 = progRow (zeros G) := progAt_end _
      rw [he]
      go_wp2_with fail
      go_ret2
      exact ⟨rfl, hbel⟩
theorem slice_lo (a f : Nat) (hf : f ≤ 8) (w : World) : (Instr.sliceAt 149 (.pointer (some ⟨a, 0, none⟩)) none (some (.int .i64 (f : Nat))) none).run Tryz.prog w = .ok (.slice (some ⟨a, 0, none⟩) f 8) w := by
  have hlen : Tryz.prog.arrayLen 149 = 8 := by kernel_rfl
  rw [run_sliceAt_array_h w 149 ⟨a, 0, none⟩ (by kernel_rfl) .i64 _ (by omega) (by rw [hlen]; omega), hlen]
  have hs : (sizeOf (Tryz.prog.elem 149)).run Tryz.prog w = .ok 1 w := by kernel_rfl
  rw [hs]
  show Result.ok (slicedAt _ _ _ _ _) w = _
  unfold slicedAt Addr.add
  simp
theorem slice_hi (a t : Nat) (ht : t ≤ 8) (w : World) : (Instr.sliceAt 149 (.pointer (some ⟨a, 0, none⟩)) (some (.int .i64 (t : Nat))) none none).run Tryz.prog w = .ok (.slice (some ⟨a, if t = 8 then 0 else t, none⟩) (8 - t) (8 - t)) w := by
  have hlen : Tryz.prog.arrayLen 149 = 8 := by kernel_rfl
  rw [run_sliceAt_array_l w 149 ⟨a, 0, none⟩ (by kernel_rfl) .i64 _ (by omega) (by rw [hlen]; omega), hlen]
  have hs : (sizeOf (Tryz.prog.elem 149)).run Tryz.prog w = .ok 1 w := by kernel_rfl
  rw [hs]
  show Result.ok (slicedAt _ _ _ _ _) w = _
  unfold slicedAt Addr.add
  simp only [Int.toNat_natCast]
  by_cases h : t = 8
  · subst h; rfl
  · rw [if_neg (by omega), if_neg h]; simp; omega
theorem words_blk {G : List Nat} {g : Nat} {w0 : World} (hl : G.length = 8) (hG6 : ∀ x ∈ G, x < 65536) (hB : Blk w0 g 149 (u16V G).toArray) (hG : Glob w0) (f t : Nat) (hf : f ≤ 8) (ht : t ≤ 8) :
    (∀ w, Below w0.heap.size w0 w → Calls Tryz.prog 118 #[.slice (some ⟨g, 0, none⟩) f 8] w fun e w' => e = .returned (.string ⟨(joinH (G.take f)).toArray⟩) ∧ Below w0.heap.size w0 w') ∧
    (∀ w, Below w0.heap.size w0 w → Calls Tryz.prog 118 #[.slice (some ⟨g, if t = 8 then 0 else t, none⟩) (8 - t) (8 - t)] w fun e w' => e = .returned (.string ⟨(joinH (G.drop t)).toArray⟩) ∧ Below w0.heap.size w0 w') := by
  constructor
  · intro w hb
    refine (words_c g 0 f 8 (G.take f) w (by simp; omega) hf (fun x hx => hG6 x (List.mem_of_mem_take hx)) (fun j hj => ?_) (hB.after hb).lt (hG.after hb)).mono fun e w' h => ⟨h.1, bl_trans hb h.2⟩
    have hj2 : j < f := by simp at hj; omega
    rw [Nat.zero_add, (hB.after hb).cell, u16_at (List.getElem?_eq_getElem (by omega : j < G.length))]
    simp
  · intro w hb
    refine (words_c g (if t = 8 then 0 else t) (8 - t) (8 - t) (G.drop t) w (by simp; omega) (by omega) (fun x hx => hG6 x (List.mem_of_mem_drop hx)) (fun j hj => ?_) (hB.after hb).lt (hG.after hb)).mono fun e w' h => ⟨h.1, bl_trans hb h.2⟩
    have hj2 : j < 8 - t := by simp at hj; omega
    rw [if_neg (by omega), (hB.after hb).cell, u16_at (List.getElem?_eq_getElem (by omega : t + j < G.length))]
    simp
theorem bytes_app (a b : List UInt8) : (⟨a.toArray⟩ : ByteArray) ++ ⟨b.toArray⟩ = ⟨(a ++ b).toArray⟩ := by
  apply ByteArray.ext
  simp
/-- an address's text; none: it may not be -/
def printA (v : Bool) (n : Nat) : List UInt8 := if rightB v n = true then (if v = true then print6 (grps n) (progRow (zeros (grps n))).1 (progRow (zeros (grps n))).2 else print4 n) else []
theorem right_false {n : Nat} (h : rightB false n = true) : n < 4294967296 := by
  unfold rightB at h
  have := of_decide_eq_true h
  exact this
set_option maxRecDepth 100000 in
set_option maxHeartbeats 3200000 in
theorem print_c (v : Bool) (n : Nat) (w : World) (hn : n < 340282366920938463463374607431768211456) (hG : Glob w) :
    Calls Tryz.prog 66 #[AddrV v n] w fun e w' => e = .returned (.string ⟨(printA v n).toArray⟩) ∧ Below w.heap.size w w' := by
  have HR := Lib.hid (fun w => right_c v n w hn)
  unfold printA
  by_cases hr : rightB v n = true
  · rw [hr] at HR
    rw [if_pos hr]
    cases v
    · have HP := Lib.hid (fun w hG => print4_c n w (right_false hr) hG)
      rw [if_neg (by simp)]
      rw [AddrV_eq] at *
      unfold AddrC at *
      go_enter Tryz.func66, Tryz.ntmps66
      go_wp2_with fail
      have hA : Blk (w.alloc (Obj.cells #[.bool false, .int .u64 (hi n), .int .u64 (lo n)] 26)) (w.heap.size) 26 (AddrC false n) := (Blk.new' _ _ _ _ (by simp) : Blk (w.alloc (Obj.cells #[.bool false, .int .u64 (hi n), .int .u64 (lo n)] 26)) (w.heap.size) 26 (AddrC false n))
      have hbel : Below w.heap.size w (w.alloc (Obj.cells #[.bool false, .int .u64 (hi n), .int .u64 (lo n)] 26)) := bl_
      replace hG := hG.after hbel
      have hsz : (w.alloc (Obj.cells #[.bool false, .int .u64 (hi n), .int .u64 (lo n)] 26)).heap.size = w.heap.size + 1 := by simp
      generalize w.alloc (Obj.cells #[.bool false, .int .u64 (hi n), .int .u64 (lo n)] 26) = w0 at *
      with_reducible refine (HR.out _).mono ?_
      rintro e w1 ⟨rfl, hb⟩
      (try clear c0 c1 c2 cz0 cz1 cz2 cz3)
      replace hA := hA.after hb
      obtain ⟨c0, c1, c2, _⟩ := blk_adr hA
      have cz0 := hA.frozen 0
      have cz1 := hA.frozen 1
      have cz2 := hA.frozen 2
      (try clear cl cl1 cl2)
      have cl := hA.lt
      have cl1 := Nat.lt_succ_of_lt cl
      have cl2 := Nat.lt_succ_of_lt cl1
      try simp only [Nat.succ_eq_add_one] at cl1 cl2
      replace hG := hG.after hb
      replace hbel := bl_trans hbel hb
      clear hb
      go_wp2_with fail
      with_reducible refine (HP.out _ hG).mono ?_
      rintro e w2 ⟨rfl, hb⟩
      replace hA := hA.after hb
      replace hG := hG.after hb
      replace hbel := bl_trans hbel hb
      clear hb
      go_wp2_with fail
      go_ret
      exact ⟨rfl, hbel⟩
    · rw [if_pos rfl]
      have HP := Lib.hid (fun w => pieces_c true n w hn)
      have HRO := Lib.hid (fun w => row_c (grps n) w (grps_len n) (fun g hg => grps_lt hg))
      obtain ⟨a0, a1, a2, a3, a4, a5, a6, a7, hgr⟩ : ∃ a0 a1 a2 a3 a4 a5 a6 a7, grps n = [a0, a1, a2, a3, a4, a5, a6, a7] := ⟨_, _, _, _, _, _, _, _, rfl⟩
      rw [hgr] at HP HRO ⊢
      simp only [u16V, List.map] at HP HRO
      rw [AddrV_eq] at *
      unfold AddrC at *
      go_enter Tryz.func66, Tryz.ntmps66
      go_wp2_with fail
      have hA : Blk (w.alloc (Obj.cells #[.bool true, .int .u64 (hi n), .int .u64 (lo n)] 26)) (w.heap.size) 26 (AddrC true n) := (Blk.new' _ _ _ _ (by simp) : Blk (w.alloc (Obj.cells #[.bool true, .int .u64 (hi n), .int .u64 (lo n)] 26)) (w.heap.size) 26 (AddrC true n))
      have hbel : Below w.heap.size w (w.alloc (Obj.cells #[.bool true, .int .u64 (hi n), .int .u64 (lo n)] 26)) := bl_
      replace hG := hG.after hbel
      have hsz : (w.alloc (Obj.cells #[.bool true, .int .u64 (hi n), .int .u64 (lo n)] 26)).heap.size = w.heap.size + 1 := by simp
      generalize w.alloc (Obj.cells #[.bool true, .int .u64 (hi n), .int .u64 (lo n)] 26) = w0 at *
      with_reducible refine (HR.out _).mono ?_
      rintro e w1 ⟨rfl, hb⟩
      (try clear c0 c1 c2 cz0 cz1 cz2 cz3)
      replace hA := hA.after hb
      obtain ⟨c0, c1, c2, _⟩ := blk_adr hA
      have cz0 := hA.frozen 0
      have cz1 := hA.frozen 1
      have cz2 := hA.frozen 2
      (try clear cl cl1 cl2)
      have cl := hA.lt
      have cl1 := Nat.lt_succ_of_lt cl
      have cl2 := Nat.lt_succ_of_lt cl1
      try simp only [Nat.succ_eq_add_one] at cl1 cl2
      replace hG := hG.after hb
      replace hbel := bl_trans hbel hb
      clear hb
      go_wp2_with fail
      with_reducible refine (HP.out _).mono ?_
      rintro e w2 ⟨rfl, hb⟩
      replace hA := hA.after hb
      replace hG := hG.after hb
      replace hbel := bl_trans hbel hb
      clear hb
      go_wp2_with fail
      have hL : Blk (w2.alloc (Obj.cells #[.int .u16 (a0 : Nat), .int .u16 (a1 : Nat), .int .u16 (a2 : Nat), .int .u16 (a3 : Nat), .int .u16 (a4 : Nat), .int .u16 (a5 : Nat), .int .u16 (a6 : Nat), .int .u16 (a7 : Nat)] 149)) (w2.heap.size) 149 #[.int .u16 (a0 : Nat), .int .u16 (a1 : Nat), .int .u16 (a2 : Nat), .int .u16 (a3 : Nat), .int .u16 (a4 : Nat), .int .u16 (a5 : Nat), .int .u16 (a6 : Nat), .int .u16 (a7 : Nat)] := (Blk.new' _ _ _ _ (by simp) : Blk (w2.alloc (Obj.cells #[.int .u16 (a0 : Nat), .int .u16 (a1 : Nat), .int .u16 (a2 : Nat), .int .u16 (a3 : Nat), .int .u16 (a4 : Nat), .int .u16 (a5 : Nat), .int .u16 (a6 : Nat), .int .u16 (a7 : Nat)] 149)) (w2.heap.size) 149 #[.int .u16 (a0 : Nat), .int .u16 (a1 : Nat), .int .u16 (a2 : Nat), .int .u16 (a3 : Nat), .int .u16 (a4 : Nat), .int .u16 (a5 : Nat), .int .u16 (a6 : Nat), .int .u16 (a7 : Nat)])
      have hbn : Below w2.heap.size w2 (w2.alloc (Obj.cells #[.int .u16 (a0 : Nat), .int .u16 (a1 : Nat), .int .u16 (a2 : Nat), .int .u16 (a3 : Nat), .int .u16 (a4 : Nat), .int .u16 (a5 : Nat), .int .u16 (a6 : Nat), .int .u16 (a7 : Nat)] 149)) := bl_
      replace hG := hG.after hbn
      replace hA := hA.after hbn
      replace hbel := bl_trans hbel hbn
      clear hbn
      (try clear hsz)
      have hsz : (w2.alloc (Obj.cells #[.int .u16 (a0 : Nat), .int .u16 (a1 : Nat), .int .u16 (a2 : Nat), .int .u16 (a3 : Nat), .int .u16 (a4 : Nat), .int .u16 (a5 : Nat), .int .u16 (a6 : Nat), .int .u16 (a7 : Nat)] 149)).heap.size = w2.heap.size + 1 := by simp
      generalize w2.alloc (Obj.cells #[.int .u16 (a0 : Nat), .int .u16 (a1 : Nat), .int .u16 (a2 : Nat), .int .u16 (a3 : Nat), .int .u16 (a4 : Nat), .int .u16 (a5 : Nat), .int .u16 (a6 : Nat), .int .u16 (a7 : Nat)] 149) = w3 at *
      with_reducible refine (HRO.out _).mono ?_
      rintro e w4 ⟨rfl, hb⟩
      replace hL := hL.after hb
      replace hG := hG.after hb
      replace hbel := bl_trans hbel hb
      clear hb
      obtain ⟨rx1, r2, r3, rx2, rx3⟩ := rows_of (G := [a0, a1, a2, a3, a4, a5, a6, a7]) rfl
      obtain ⟨f, hF⟩ : ∃ f, (progRow (zeros [a0, a1, a2, a3, a4, a5, a6, a7])).1 = f := ⟨_, rfl⟩
      obtain ⟨t, hT⟩ : ∃ f, (progRow (zeros [a0, a1, a2, a3, a4, a5, a6, a7])).2 = f := ⟨_, rfl⟩
      have HF := Lib.hid hF
      have HT := Lib.hid hT
      rw [hF, hT] at r2
      rw [hT] at r3
      rw [hF, hT]
      clear hF hT rx1 rx2 rx3
      have h6 : ∀ x ∈ [a0, a1, a2, a3, a4, a5, a6, a7], x < 65536 := fun x hx => grps_lt (hgr ▸ hx)
      obtain ⟨hw1, hw2⟩ := words_blk (G := [a0, a1, a2, a3, a4, a5, a6, a7]) rfl h6 hL hG f t (by omega) r3
      obtain ⟨hw3, hw4⟩ := words_blk (G := [a0, a1, a2, a3, a4, a5, a6, a7]) rfl h6 hL hG 8 t (by omega) r3
      have hjl : ∀ L : List Nat, L.length ≤ 8 → (⟨(joinH L).toArray⟩ : ByteArray).size ≤ 1000 := fun L hL => by
        have := join_len (c := [58]) (m := 4) (l := L.map hexD) (fun p hp => by
          obtain ⟨x, _, rfl⟩ := List.mem_map.1 hp
          exact hexD_len x)
        rw [List.length_map] at this
        show (joinH L).toArray.size ≤ 1000
        rw [List.size_toArray]
        refine Nat.le_trans this ?_
        simp; omega
      have hz1 := hjl ([a0, a1, a2, a3, a4, a5, a6, a7].take f) (by simp; omega)
      have hz2 := hjl ([a0, a1, a2, a3, a4, a5, a6, a7].drop t) (by simp)
      obtain ⟨S1, hS1⟩ : ∃ S : ByteArray, (⟨(joinH ([a0, a1, a2, a3, a4, a5, a6, a7].take f)).toArray⟩ : ByteArray) = S := ⟨_, rfl⟩
      obtain ⟨S2, hS2⟩ : ∃ S : ByteArray, (⟨(joinH ([a0, a1, a2, a3, a4, a5, a6, a7].drop t)).toArray⟩ : ByteArray) = S := ⟨_, rfl⟩
      obtain ⟨S3, hS3⟩ : ∃ S : ByteArray, (⟨(joinH ([a0, a1, a2, a3, a4, a5, a6, a7].take 8)).toArray⟩ : ByteArray) = S := ⟨_, rfl⟩
      rw [hS1] at hw1 hz1
      rw [hS2] at hw2 hz2
      rw [hS3] at hw3
      have hpr : (⟨(print6 [a0, a1, a2, a3, a4, a5, a6, a7] (progRow (zeros [a0, a1, a2, a3, a4, a5, a6, a7])).1 (progRow (zeros [a0, a1, a2, a3, a4, a5, a6, a7])).2).toArray⟩ : ByteArray) = if f = t then S3 else S1 ++ ⟨#[58, 58]⟩ ++ S2 := by
        rw [HF.out, HT.out]
        unfold print6
        by_cases h : f = t
        · rw [if_pos h, if_pos h, ← hS3]; rfl
        · rw [if_neg h, if_neg h, ← hS1, ← hS2]
          show _ = _ ++ (⟨[58, 58].toArray⟩ : ByteArray) ++ _
          rw [bytes_app, bytes_app]
          simp
      have HPR := Lib.hid hpr
      clear hS1 hS2 hS3 hpr hjl
      have hs1 := slice_lo w2.heap.size f (by omega)
      have hs2 := slice_hi w2.heap.size t r3
      have hbs : Below w4.heap.size w4 w4 := Below.refl _ _
      generalize (if t = 8 then 0 else t) = o2 at *
      generalize 8 - t = n2 at *
      have HW1 := Lib.hid hw1
      have HW2 := Lib.hid hw2
      have HW3 := Lib.hid hw3
      clear hw1 hw2 hw3 hw4 h6 HRO HP HR hgr HF HT
      by_cases hft : f = t
      · have d : ((f : Int) == t) = true := by simp; omega
        go_wp2_with fail
        refine (HW3.out _ hbs).mono ?_
        rintro e wx ⟨rfl, hbx⟩
        go_wp2_with fail
        go_ret
        refine ⟨?_, bl_trans hbel hbx⟩
        rw [HPR.out, if_pos hft]; rfl
      · have d : ((f : Int) == t) = false := by simp; omega
        go_wp2_with fail
        have hq1 : S1.size ≤ 9223372036854775805 := by omega
        have hq2 : S1.size + 2 + S2.size ≤ 9223372036854775807 := by omega
        have hcat1 : ∀ w, (Op.stringOp .add S1 ⟨#[58, 58]⟩).run Tryz.prog w = .ok (.string (S1 ++ ⟨#[58, 58]⟩)) w := fun w => run_string_add w S1 ⟨#[58, 58]⟩ (by omega) (by decide)
        have hcat2 : ∀ w, (Op.stringOp .add (S1 ++ ⟨#[58, 58]⟩) S2).run Tryz.prog w = .ok (.string (S1 ++ ⟨#[58, 58]⟩ ++ S2)) w := fun w => run_string_add w _ S2 (by rw [ByteArray.size_append]; show ((S1.size + 2 : Nat) : Int) ≤ _; omega) (by omega)
        clear hz1 hz2
        go_region_held3 (fun w' => Below w4.heap.size w4 w') (exact bl_)
          (first
          | (with_reducible refine (HW1.out _ ‹_›).mono ?_; rintro e wx ⟨rfl, hbx⟩)
          | (with_reducible refine (HW2.out _ ‹_›).mono ?_; rintro e wx ⟨rfl, hbx⟩))
        all_goals
          go_wp2_with fail
          go_ret
          exact ⟨by rw [HPR.out, if_neg hft]; rfl, bl_trans hbel ‹_›⟩
  · have hr' : rightB v n = false := by simpa using hr
    rw [hr'] at HR
    rw [if_neg hr]
    rw [AddrV_eq] at *
    unfold AddrC at *
    go_enter Tryz.func66, Tryz.ntmps66
    go_wp2_with fail
    refine (HR.out _).mono ?_
    rintro e w1 ⟨rfl, hb1⟩
    go_wp2_with fail
    go_ret
    exact ⟨rfl, bl_⟩
end Go.Proofs.YtpfilldnfpcpkaaGreatDoor

namespace Go.Proofs.YtpfilldnfpcpkaaGreatDoor

/-- without the last f bits -/
def topN (f n : Nat) : Nat := n / 2 ^ f * 2 ^ f
theorem topN_le (f n : Nat) : topN f n ≤ n := Nat.div_mul_le_self n (2 ^ f)
theorem topN_div (f n : Nat) : topN f n / 2 ^ f = n / 2 ^ f := by unfold topN; exact Nat.mul_div_cancel _ (Nat.two_pow_pos f)
theorem topN_iff {f x y : Nat} (hx : x % 2 ^ f = 0) : topN f y = x ↔ y / 2 ^ f = x / 2 ^ f := by
  constructor
  · rintro rfl; rw [topN_div]
  · intro h
    unfold topN
    rw [h]
    exact Nat.div_mul_cancel (Nat.dvd_of_mod_eq_zero hx)
theorem and_ones (n f : Nat) : n &&& (2 ^ f - 1) = n % 2 ^ f := Nat.and_two_pow_sub_one_eq_mod n f
theorem and_not {n f k : Nat} (hf : f ≤ k) (hn : n < 2 ^ k) : n &&& (2 ^ k - 1 - (2 ^ f - 1)) = topN f n := by
  have hp : 2 ^ f ≤ 2 ^ k := Nat.pow_le_pow_right (by omega) hf
  have hf0 := Nat.two_pow_pos f
  apply Nat.eq_of_testBit_eq
  intro i
  rw [Nat.testBit_and, show 2 ^ k - 1 - (2 ^ f - 1) = 2 ^ k - ((2 ^ f - 1) + 1) by omega, Nat.testBit_two_pow_sub_succ (by omega), Nat.testBit_two_pow_sub_one]
  unfold topN
  rw [Nat.testBit_mul_two_pow, Nat.testBit_div_two_pow]
  by_cases h1 : i < f
  · simp [h1, Nat.not_le.2 h1]
  · have h2 : f ≤ i := by omega
    simp only [h1, decide_false, Bool.not_false, Bool.and_true, ge_iff_le, h2, decide_true, Bool.true_and]
    rw [show i - f + f = i by omega]
    by_cases h3 : i < k
    · simp [h3]
    · have : n.testBit i = false := Nat.testBit_lt_two_pow (Nat.lt_of_lt_of_le hn (Nat.pow_le_pow_right (by omega) (by omega)))
      simp [this]
theorem or_ones {n f : Nat} (h : n % 2 ^ f = 0) : n ||| (2 ^ f - 1) = n + (2 ^ f - 1) := by
  have hf0 := Nat.two_pow_pos f
  have e : n = 2 ^ f * (n / 2 ^ f) := (Nat.mul_div_cancel' (Nat.dvd_of_mod_eq_zero h)).symm
  rw [e, Nat.two_pow_add_eq_or_of_lt (by omega)]
theorem or_small {n f d : Nat} (h : n % 2 ^ f = 0) (hd : d < 2 ^ f) : n ||| d = n + d := by
  have e : n = 2 ^ f * (n / 2 ^ f) := (Nat.mul_div_cancel' (Nat.dvd_of_mod_eq_zero h)).symm
  rw [e, Nat.two_pow_add_eq_or_of_lt hd]
theorem lenN_iff (n k : Nat) : lenN n ≤ k ↔ n < 2 ^ k := by
  unfold lenN
  by_cases h0 : n = 0
  · subst h0; simp [Nat.two_pow_pos]
  · rw [if_neg h0, Nat.add_one_le_iff]
    exact Nat.log2_lt h0
end Go.Proofs.YtpfilldnfpcpkaaGreatDoor

namespace Go.Proofs.YtpfilldnfpcpkaaGreatDoor
open Go.RowKit

section
variable {P : Program} {ops : Array Oper} {Q : Exit → Act → World → Prop} {md : Region.Mode} {S : World → Prop}
theorem get_of_drop {i : Nat} {oi : Oper} {rest : List Oper} (hd : ops.toList.drop i = oi :: rest) : ops[i]? = some oi := by
  have h1 : (ops.toList.drop i)[0]? = some oi := by rw [hd]; rfl
  rw [List.getElem?_drop, Nat.add_zero] at h1
  simpa using h1
/-- wpAnyH_take, the operation read off the list written out -/
theorem take_q {i : Nat} {oi : Oper} {rest : List Oper} {v : Value} {fuel : Nat} {listed : Array Bool} {a : Act} {w : World} (hd : ops.toList.drop i = oi :: rest)
    (hs : Region.noSelect ops = true) (hf : Region.free md ops listed i = true) (hr : (Region.ready md ops listed).contains i = true)
    (hQ : ∀ c a w, Q (.panic c) (a.put oi.dst v) w → Q (.panic c) a w) (hy : YieldsIf P ops S oi v a) (hS : S w)
    (h : wpAnyH P md ops Q S fuel (listed.setIfInBounds i true) (a.put oi.dst v) w) : wpAnyH P md ops Q S (fuel + 1) listed a w :=
  wpAnyH_take (get_of_drop hd) hs hf hr hQ hy hS h
theorem cons_q {fuel : Nat} {listed : Array Bool} {a : Act} {w : World} {i : Nat} {o : Oper} {rest : List Oper} {rs : List Nat} (hd : ops.toList.drop i = o :: rest)
    (h : ∀ K' : Act → World → Prop, Shut (∀ a w, S w → (S w → wpAnyH P md ops Q S fuel (listed.setIfInBounds i true) a w) → K' a w) → if Region.wanted o (yielded ops a.tmps) = true then Oper.wp P o a w K' Q else K' (a.put o.dst undef) w)
    (hs : AllReadyH P md ops Q S fuel listed a w rs) : AllReadyH P md ops Q S fuel listed a w (i :: rs) := AllReadyH.cons (get_of_drop hd) h hs
end

end Go.Proofs.YtpfilldnfpcpkaaGreatDoor

namespace Go.Proofs.YtpfilldnfpcpkaaGreatDoor
open Go.RowKit

def PfxC (v : Bool) (n : Nat) (b : Int) : Array Value := #[.bool v, .int .u64 (hi n), .int .u64 (lo n), .int .i64 b]
def PfxV (v : Bool) (n : Nat) (b : Int) : Value := .agg (PfxC v n b)
/-- bits that are not fixed -/
def fr (v : Bool) (b : Int) : Nat := widthN v - b.toNat
theorem fr_le (v : Bool) (b : Int) : fr v b ≤ 128 := by unfold fr; cases v <;> simp [widthN] <;> omega
/-- may it be? -/
def rightP (v : Bool) (n : Nat) (b : Int) : Bool := rightB v n && (decide (0 ≤ b) && (decide (b ≤ (widthN v : Int)) && decide (n % 2 ^ fr v b = 0)))
theorem blk_pfx {w : World} {g : Nat} {v : Bool} {n : Nat} {b : Int} (h : Blk w g 28 (PfxC v n b)) :
    w.cell? ⟨g, 0, none⟩ = some (.bool v) ∧ w.cell? ⟨g, 1, none⟩ = some (.int .u64 (hi n)) ∧ w.cell? ⟨g, 2, none⟩ = some (.int .u64 (lo n)) ∧ w.cell? ⟨g, 3, none⟩ = some (.int .i64 b) ∧ Blk w g 28 (PfxC v n b) :=
  ⟨h.cell 0, h.cell 1, h.cell 2, h.cell 3, h⟩
theorem ones_val {v : Bool} {b : Int} (h0 : 0 ≤ b) (h1 : b ≤ (widthN v : Int)) : onesN ((widthN v : Int) - b) = 2 ^ fr v b - 1 := by
  unfold onesN fr
  have hw : widthN v ≤ 128 := by cases v <;> decide
  obtain ⟨k, rfl⟩ := Int.eq_ofNat_of_zero_le h0
  by_cases e1 : (widthN v : Int) - (k : Int) < 1
  · rw [if_pos e1, show widthN v - (k : Int).toNat = 0 by omega]
  · rw [if_neg e1]
    by_cases e2 : (128 : Int) ≤ (widthN v : Int) - (k : Int)
    · rw [if_pos e2, show widthN v - (k : Int).toNat = 128 by omega]
    · rw [if_neg e2]
      congr 2
      omega
theorem pow_fr (v : Bool) (b : Int) : 2 ^ fr v b - 1 < 340282366920938463463374607431768211456 := by
  have h := Nat.pow_le_pow_right (n := 2) (by omega) (fr_le v b)
  have h2 : (2 : Nat) ^ 128 = 340282366920938463463374607431768211456 := by decide
  have h3 := Nat.two_pow_pos (fr v b)
  omega
set_option maxRecDepth 100000 in
theorem free_c (v : Bool) (n : Nat) (b : Int) (w : World) (h0 : 0 ≤ b) (h1 : b ≤ (widthN v : Int)) :
    Calls Tryz.prog 94 #[PfxV v n b] w fun e w' => e = .returned (numV (2 ^ fr v b - 1)) ∧ Below w.heap.size w w' := by
  have HW := Lib.hid (fun w => width_c v n w)
  have HO := Lib.hid (fun w => ones_c ((widthN v : Int) - b) w)
  rw [ones_val h0 h1] at HO
  have hw : widthN v ≤ 128 := by cases v <;> decide
  generalize 2 ^ fr v b - 1 = F at *
  unfold PfxV PfxC
  simp only [AddrV_eq, AddrC] at HW
  unfold numV at *
  generalize widthN v = wd at *
  have HDEC := Lib.hid (show IntKind.i64.wrap ((wd : Int) - b) = (wd : Int) - b by rw [IntKind.wrap_i64]; omega)
  generalize hi F = fh at *
  generalize lo F = fl at *
  go_enter Tryz.func94, Tryz.ntmps94
  go_wp2_with fail
  have hA : Blk ((w.alloc (Obj.cells #[.bool v, .int .u64 (hi n), .int .u64 (lo n), .int .i64 b] 28)).alloc (Obj.cells #[.int .u64 0, .int .u64 0] 24)) (w.heap.size) 28 (PfxC v n b) := ((Blk.new' _ _ _ _ (by simp) : Blk (w.alloc (Obj.cells #[.bool v, .int .u64 (hi n), .int .u64 (lo n), .int .i64 b] 28)) (w.heap.size) 28 (PfxC v n b))).alloc _
  have hX : Blk ((w.alloc (Obj.cells #[.bool v, .int .u64 (hi n), .int .u64 (lo n), .int .i64 b] 28)).alloc (Obj.cells #[.int .u64 0, .int .u64 0] 24)) (w.heap.size + 1) 24 #[.int .u64 0, .int .u64 0] := (Blk.new' _ _ _ _ (by simp) : Blk ((w.alloc (Obj.cells #[.bool v, .int .u64 (hi n), .int .u64 (lo n), .int .i64 b] 28)).alloc (Obj.cells #[.int .u64 0, .int .u64 0] 24)) (w.heap.size + 1) 24 #[.int .u64 0, .int .u64 0])
  have hbel : Below w.heap.size w ((w.alloc (Obj.cells #[.bool v, .int .u64 (hi n), .int .u64 (lo n), .int .i64 b] 28)).alloc (Obj.cells #[.int .u64 0, .int .u64 0] 24)) := bl_
  have hsz : ((w.alloc (Obj.cells #[.bool v, .int .u64 (hi n), .int .u64 (lo n), .int .i64 b] 28)).alloc (Obj.cells #[.int .u64 0, .int .u64 0] 24)).heap.size = w.heap.size + 1 + 1 := by simp
  generalize (w.alloc (Obj.cells #[.bool v, .int .u64 (hi n), .int .u64 (lo n), .int .i64 b] 28)).alloc (Obj.cells #[.int .u64 0, .int .u64 0] 24) = w0 at *
  have hbel0 : Below w.heap.size w w0.drew := bl_
  refine wp_region_held_drew (S := fun w' => (w'.cell? ⟨w.heap.size, 0, none⟩ = some (.bool v) ∧ w'.cell? ⟨w.heap.size, 1, none⟩ = some (.int .u64 (hi n)) ∧ w'.cell? ⟨w.heap.size, 2, none⟩ = some (.int .u64 (lo n)) ∧ w'.cell? ⟨w.heap.size, 3, none⟩ = some (.int .i64 b) ∧ Blk w' w.heap.size 28 (PfxC v n b)) ∧ (∃ x y, Blk w' (w.heap.size + 1) 24 #[x, y]) ∧ Below w.heap.size w w') (by kernel_rfl) ?_ (fun hHeld => ?_)
  · first | exact ⟨blk_pfx bk_, ⟨_, _, bk_⟩, bl_⟩ | exact ⟨blk_pfx (hHeld.1.2.2.2.2.after (by assumption)), ⟨_, _, hHeld.2.1.choose_spec.choose_spec.after (by assumption)⟩, bl_trans hHeld.2.2 (by assumption)⟩
  refine take_q (i := 0) (v := ?_) rfl (by kernel_rfl) (by kernel_rfl) (by kernel_rfl) (fun _ _ _ h => h) (Or.inl ⟨by rfl, ?_⟩) (by assumption) ?_
  rotate_left
  · intro w hSw; (try dsimp only at hSw); go_simp; (try simp only [HDEC.out]); (try simp only [HDEC2.out]); try with_reducible rfl
  try simp only [Act.put, List.setIfInBounds_toArray, List.set_cons_zero, List.set_cons_succ]
  refine take_q (i := 1) (v := ?_) rfl (by kernel_rfl) (by kernel_rfl) (by kernel_rfl) (fun _ _ _ h => h) (Or.inl ⟨by rfl, ?_⟩) (by assumption) ?_
  rotate_left
  · intro w hSw; (try dsimp only at hSw); go_simp; (try simp only [HDEC.out]); (try simp only [HDEC2.out]); try with_reducible rfl
  try simp only [Act.put, List.setIfInBounds_toArray, List.set_cons_zero, List.set_cons_succ]
  refine take_q (i := 3) (v := ?_) rfl (by kernel_rfl) (by kernel_rfl) (by kernel_rfl) (fun _ _ _ h => h) (Or.inl ⟨by rfl, ?_⟩) (by assumption) ?_
  rotate_left
  · intro w hSw; (try dsimp only at hSw); go_simp; (try simp only [HDEC.out]); (try simp only [HDEC2.out]); try with_reducible rfl
  try simp only [Act.put, List.setIfInBounds_toArray, List.set_cons_zero, List.set_cons_succ]
  refine take_q (i := 4) (v := ?_) rfl (by kernel_rfl) (by kernel_rfl) (by kernel_rfl) (fun _ _ _ h => h) (Or.inl ⟨by rfl, ?_⟩) (by assumption) ?_
  rotate_left
  · intro w hSw; (try dsimp only at hSw); go_simp; (try simp only [HDEC.out]); (try simp only [HDEC2.out]); try with_reducible rfl
  try simp only [Act.put, List.setIfInBounds_toArray, List.set_cons_zero, List.set_cons_succ]
  refine wpAnyH_ready (rs := [2]) (by kernel_rfl) (by simp) ?_
  refine cons_q rfl (fun K hK => ?_) AllReadyH.nil
  go_simp
  with_reducible refine (HW.out _).mono ?_; rintro e w2 ⟨rfl, hb2⟩
  refine hK.out _ _ ?_ (fun hHeld => ?_)
  · first | exact ⟨blk_pfx bk_, ⟨_, _, bk_⟩, bl_⟩ | exact ⟨blk_pfx (hHeld.1.2.2.2.2.after (by assumption)), ⟨_, _, hHeld.2.1.choose_spec.choose_spec.after (by assumption)⟩, bl_trans hHeld.2.2 (by assumption)⟩
  clear hK K
  try simp only [Act.put, List.setIfInBounds_toArray, List.set_cons_zero, List.set_cons_succ]
  refine take_q (i := 5) (v := ?_) rfl (by kernel_rfl) (by kernel_rfl) (by kernel_rfl) (fun _ _ _ h => h) (Or.inl ⟨by rfl, ?_⟩) (by assumption) ?_
  rotate_left
  · intro w hSw; (try dsimp only at hSw); go_simp; (try simp only [HDEC.out]); (try simp only [HDEC2.out]); try with_reducible rfl
  try simp only [Act.put, List.setIfInBounds_toArray, List.set_cons_zero, List.set_cons_succ]
  refine wpAnyH_ready (rs := [6]) (by kernel_rfl) (by simp) ?_
  refine cons_q rfl (fun K hK => ?_) AllReadyH.nil
  go_simp
  with_reducible refine (HO.out _).mono ?_; rintro e w2 ⟨rfl, hb2⟩
  refine hK.out _ _ ?_ (fun hHeld => ?_)
  · first | exact ⟨blk_pfx bk_, ⟨_, _, bk_⟩, bl_⟩ | exact ⟨blk_pfx (hHeld.1.2.2.2.2.after (by assumption)), ⟨_, _, hHeld.2.1.choose_spec.choose_spec.after (by assumption)⟩, bl_trans hHeld.2.2 (by assumption)⟩
  clear hK K
  try simp only [Act.put, List.setIfInBounds_toArray, List.set_cons_zero, List.set_cons_succ]
  obtain ⟨hP, ⟨x, y, hX2⟩, hB⟩ := hHeld
  have x0 := hX2.cell 0
  have x1 := hX2.cell 1
  have z0 := hX2.frozen 0
  have z1 := hX2.frozen 1
  refine wpAnyH_ready (rs := [7]) (by kernel_rfl) (by simp) ?_
  refine cons_q rfl (fun K hK => ?_) AllReadyH.nil
  go_simp
  have hP5 := hP.2.2.2.2
  refine hK.out _ _ ?_ (fun hHeld2 => ?_)
  · exact ⟨blk_pfx bk_, ⟨_, _, (hX2.put 0 _).put 1 _⟩, bl_⟩
  clear hK K
  refine wpAnyH_done (by kernel_rfl) ?_ _
  go_wp2_with fail
  refine bodyPost_ret (v := .agg #[.int .u64 fh, .int .u64 fl]) (results_cell_row (t := 24) Tryz.results94 _ _ (w.heap.size + 1) _ (0, 0) _ rfl ((hX2.put 0 _).put 1 _) Tryz.underlying24 rfl (by kernel_rfl)) rfl ⟨rfl, bl_⟩
theorem and_nat {a b : Nat} :
    Value.agg #[.int .u64 (bits .and .u64 (hi a) (hi b)), .int .u64 (bits .and .u64 (lo a) (lo b))] = numV (a &&& b) := by
  have e64 : (18446744073709551616 : Nat) = 2 ^ 64 := by decide
  unfold numV hi lo
  rw [bits_and_u64_nat _ _ (Nat.mod_lt _ (by omega)) (Nat.mod_lt _ (by omega)), bits_and_u64_nat _ _ (Nat.mod_lt _ (by omega)) (Nat.mod_lt _ (by omega)), e64]
  rw [← Nat.and_mod_two_pow, ← Nat.and_mod_two_pow, ← Nat.shiftRight_eq_div_pow, ← Nat.shiftRight_eq_div_pow, ← Nat.shiftRight_and_distrib, Nat.shiftRight_eq_div_pow]
set_option maxRecDepth 100000 in
theorem andn_c (a b : Nat) (w : World) :
    Calls Tryz.prog 133 #[numV a, numV b] w fun e w' => e = .returned (numV (a &&& b)) ∧ Below w.heap.size w w' := by
  rw [← and_nat]
  unfold numV
  have hA := hi_nn a
  generalize hi a = ah, lo a = al, hi b = bh, lo b = bl at *
  go_enter Tryz.func133, Tryz.ntmps133
  go_wp2_with fail
  refine bodyPost_ret (v := .agg #[.int .u64 (bits .and .u64 ah bh), .int .u64 (bits .and .u64 al bl)]) (results_cell_row (t := 24) Tryz.results133 _ _ (w.heap.size + 1 + 1) _ (0, 0) _ rfl (Blk.new' _ _ _ _ (by simp)) Tryz.underlying24 rfl (by kernel_rfl)) rfl ⟨rfl, bl_⟩
set_option maxRecDepth 100000 in
set_option maxHeartbeats 1600000 in
theorem rightP_c (v : Bool) (n : Nat) (b : Int) (w : World) (hn : n < 340282366920938463463374607431768211456) :
    Calls Tryz.prog 90 #[PfxV v n b] w fun e w' => e = .returned (.bool (rightP v n b)) ∧ Below w.heap.size w w' := by
  have HR := Lib.hid (fun w => right_c v n w hn)
  have HW := Lib.hid (fun w => width_c v n w)
  have hcase : (rightB v n = false ∧ rightP v n b = false) ∨ (rightB v n = true ∧ ¬ 0 ≤ b ∧ rightP v n b = false) ∨ (rightB v n = true ∧ 0 ≤ b ∧ ¬ b ≤ (widthN v : Int) ∧ rightP v n b = false) ∨ (rightB v n = true ∧ 0 ≤ b ∧ b ≤ (widthN v : Int) ∧ rightP v n b = decide (n % 2 ^ fr v b = 0)) := by
    unfold rightP
    cases rightB v n
    · exact .inl ⟨rfl, rfl⟩
    · by_cases h0 : 0 ≤ b
      · by_cases h1 : b ≤ (widthN v : Int)
        · exact .inr (.inr (.inr ⟨rfl, h0, h1, by simp [h0, h1]⟩))
        · exact .inr (.inr (.inl ⟨rfl, h0, h1, by simp [h1]⟩))
      · exact .inr (.inl ⟨rfl, h0, by simp [h0]⟩)
  rcases hcase with ⟨hr, hp⟩ | ⟨hr, h0, hp⟩ | ⟨hr, h0, h1, hp⟩ | ⟨hr, h0, h1, hp⟩
  · rw [hr] at HR
    rw [hp]
    clear hp hr
    unfold PfxV PfxC
    simp only [AddrV_eq, AddrC] at HR HW
    generalize widthN v = wd at *
    go_enter Tryz.func90, Tryz.ntmps90
    go_wp2_with fail
    have hA : Blk (w.alloc (Obj.cells #[.bool v, .int .u64 (hi n), .int .u64 (lo n), .int .i64 b] 28)) (w.heap.size) 28 (PfxC v n b) := (Blk.new' _ _ _ _ (by simp) : Blk (w.alloc (Obj.cells #[.bool v, .int .u64 (hi n), .int .u64 (lo n), .int .i64 b] 28)) (w.heap.size) 28 (PfxC v n b))
    have hbel : Below w.heap.size w (w.alloc (Obj.cells #[.bool v, .int .u64 (hi n), .int .u64 (lo n), .int .i64 b] 28)) := bl_
    have hsz : (w.alloc (Obj.cells #[.bool v, .int .u64 (hi n), .int .u64 (lo n), .int .i64 b] 28)).heap.size = w.heap.size + 1 := by simp
    generalize w.alloc (Obj.cells #[.bool v, .int .u64 (hi n), .int .u64 (lo n), .int .i64 b] 28) = w0 at *
    have hbel0 : Below w.heap.size w w0.drew := bl_
    refine wp_region_held_drew (S := fun w' => (w'.cell? ⟨w.heap.size, 0, none⟩ = some (.bool v) ∧ w'.cell? ⟨w.heap.size, 1, none⟩ = some (.int .u64 (hi n)) ∧ w'.cell? ⟨w.heap.size, 2, none⟩ = some (.int .u64 (lo n)) ∧ w'.cell? ⟨w.heap.size, 3, none⟩ = some (.int .i64 b) ∧ Blk w' w.heap.size 28 (PfxC v n b)) ∧ Below w.heap.size w w') (by kernel_rfl) ?_ (fun hHeld => ?_)
    · exact ⟨blk_pfx bk_, bl_⟩
    refine take_q (i := 0) (v := ?_) rfl (by kernel_rfl) (by kernel_rfl) (by kernel_rfl) (fun _ _ _ h => h) (Or.inl ⟨by rfl, ?_⟩) (by assumption) ?_
    rotate_left
    · intro w hSw; (try dsimp only at hSw); go_simp; (try simp only [HDEC.out]); (try simp only [HDEC2.out]); try with_reducible rfl
    try simp only [Act.put, List.setIfInBounds_toArray, List.set_cons_zero, List.set_cons_succ]
    refine take_q (i := 1) (v := ?_) rfl (by kernel_rfl) (by kernel_rfl) (by kernel_rfl) (fun _ _ _ h => h) (Or.inl ⟨by rfl, ?_⟩) (by assumption) ?_
    rotate_left
    · intro w hSw; (try dsimp only at hSw); go_simp; (try simp only [HDEC.out]); (try simp only [HDEC2.out]); try with_reducible rfl
    try simp only [Act.put, List.setIfInBounds_toArray, List.set_cons_zero, List.set_cons_succ]
    refine wpAnyH_ready (rs := [2]) (by kernel_rfl) (by simp) ?_
    refine cons_q rfl (fun K hK => ?_) AllReadyH.nil
    go_simp
    with_reducible refine (HR.out _).mono ?_; rintro e w1 ⟨rfl, hb1⟩
    refine hK.out _ _ ?_ (fun hHeld => ?_)
    · exact ⟨blk_pfx bk_, bl_⟩
    clear hK K
    try simp only [Act.put, List.setIfInBounds_toArray, List.set_cons_zero, List.set_cons_succ]
    refine take_q (i := 3) (v := ?_) rfl (by kernel_rfl) (by kernel_rfl) (by kernel_rfl) (fun _ _ _ h => h) (Or.inl ⟨by rfl, ?_⟩) (by assumption) ?_
    rotate_left
    · intro w hSw; (try dsimp only at hSw); go_simp; (try simp only [HDEC.out]); (try simp only [HDEC2.out]); try with_reducible rfl
    try simp only [Act.put, List.setIfInBounds_toArray, List.set_cons_zero, List.set_cons_succ]
    refine take_q (i := 4) (v := undef) rfl (by kernel_rfl) (by kernel_rfl) (by kernel_rfl) (fun _ _ _ h => h) (Or.inr ⟨by rfl, rfl⟩) (by assumption) ?_
    try simp only [Act.put, List.setIfInBounds_toArray, List.set_cons_zero, List.set_cons_succ]
    refine take_q (i := 5) (v := undef) rfl (by kernel_rfl) (by kernel_rfl) (by kernel_rfl) (fun _ _ _ h => h) (Or.inr ⟨by rfl, rfl⟩) (by assumption) ?_
    try simp only [Act.put, List.setIfInBounds_toArray, List.set_cons_zero, List.set_cons_succ]
    refine take_q (i := 6) (v := undef) rfl (by kernel_rfl) (by kernel_rfl) (by kernel_rfl) (fun _ _ _ h => h) (Or.inr ⟨by rfl, rfl⟩) (by assumption) ?_
    try simp only [Act.put, List.setIfInBounds_toArray, List.set_cons_zero, List.set_cons_succ]
    refine take_q (i := 7) (v := ?_) rfl (by kernel_rfl) (by kernel_rfl) (by kernel_rfl) (fun _ _ _ h => h) (Or.inl ⟨by rfl, ?_⟩) (by assumption) ?_
    rotate_left
    · intro w hSw; (try dsimp only at hSw); go_simp; (try simp only [HDEC.out]); (try simp only [HDEC2.out]); try with_reducible rfl
    try simp only [Act.put, List.setIfInBounds_toArray, List.set_cons_zero, List.set_cons_succ]
    refine take_q (i := 8) (v := ?_) rfl (by kernel_rfl) (by kernel_rfl) (by kernel_rfl) (fun _ _ _ h => h) (Or.inl ⟨by rfl, ?_⟩) (by assumption) ?_
    rotate_left
    · intro w hSw; (try dsimp only at hSw); go_simp; (try simp only [HDEC.out]); (try simp only [HDEC2.out]); try with_reducible rfl
    try simp only [Act.put, List.setIfInBounds_toArray, List.set_cons_zero, List.set_cons_succ]
    refine take_q (i := 9) (v := undef) rfl (by kernel_rfl) (by kernel_rfl) (by kernel_rfl) (fun _ _ _ h => h) (Or.inr ⟨by rfl, rfl⟩) (by assumption) ?_
    try simp only [Act.put, List.setIfInBounds_toArray, List.set_cons_zero, List.set_cons_succ]
    refine take_q (i := 10) (v := undef) rfl (by kernel_rfl) (by kernel_rfl) (by kernel_rfl) (fun _ _ _ h => h) (Or.inr ⟨by rfl, rfl⟩) (by assumption) ?_
    try simp only [Act.put, List.setIfInBounds_toArray, List.set_cons_zero, List.set_cons_succ]
    refine take_q (i := 11) (v := undef) rfl (by kernel_rfl) (by kernel_rfl) (by kernel_rfl) (fun _ _ _ h => h) (Or.inr ⟨by rfl, rfl⟩) (by assumption) ?_
    try simp only [Act.put, List.setIfInBounds_toArray, List.set_cons_zero, List.set_cons_succ]
    refine take_q (i := 12) (v := undef) rfl (by kernel_rfl) (by kernel_rfl) (by kernel_rfl) (fun _ _ _ h => h) (Or.inr ⟨by rfl, rfl⟩) (by assumption) ?_
    try simp only [Act.put, List.setIfInBounds_toArray, List.set_cons_zero, List.set_cons_succ]
    refine take_q (i := 13) (v := undef) rfl (by kernel_rfl) (by kernel_rfl) (by kernel_rfl) (fun _ _ _ h => h) (Or.inr ⟨by rfl, rfl⟩) (by assumption) ?_
    try simp only [Act.put, List.setIfInBounds_toArray, List.set_cons_zero, List.set_cons_succ]
    refine take_q (i := 14) (v := undef) rfl (by kernel_rfl) (by kernel_rfl) (by kernel_rfl) (fun _ _ _ h => h) (Or.inr ⟨by rfl, rfl⟩) (by assumption) ?_
    try simp only [Act.put, List.setIfInBounds_toArray, List.set_cons_zero, List.set_cons_succ]
    refine take_q (i := 15) (v := ?_) rfl (by kernel_rfl) (by kernel_rfl) (by kernel_rfl) (fun _ _ _ h => h) (Or.inl ⟨by rfl, ?_⟩) (by assumption) ?_
    rotate_left
    · intro w hSw; (try dsimp only at hSw); go_simp; (try simp only [HDEC.out]); (try simp only [HDEC2.out]); try with_reducible rfl
    try simp only [Act.put, List.setIfInBounds_toArray, List.set_cons_zero, List.set_cons_succ]
    refine take_q (i := 16) (v := ?_) rfl (by kernel_rfl) (by kernel_rfl) (by kernel_rfl) (fun _ _ _ h => h) (Or.inl ⟨by rfl, ?_⟩) (by assumption) ?_
    rotate_left
    · intro w hSw; (try dsimp only at hSw); go_simp; (try simp only [HDEC.out]); (try simp only [HDEC2.out]); try with_reducible rfl
    try simp only [Act.put, List.setIfInBounds_toArray, List.set_cons_zero, List.set_cons_succ]
    refine take_q (i := 17) (v := undef) rfl (by kernel_rfl) (by kernel_rfl) (by kernel_rfl) (fun _ _ _ h => h) (Or.inr ⟨by rfl, rfl⟩) (by assumption) ?_
    try simp only [Act.put, List.setIfInBounds_toArray, List.set_cons_zero, List.set_cons_succ]
    refine take_q (i := 18) (v := undef) rfl (by kernel_rfl) (by kernel_rfl) (by kernel_rfl) (fun _ _ _ h => h) (Or.inr ⟨by rfl, rfl⟩) (by assumption) ?_
    try simp only [Act.put, List.setIfInBounds_toArray, List.set_cons_zero, List.set_cons_succ]
    refine take_q (i := 19) (v := undef) rfl (by kernel_rfl) (by kernel_rfl) (by kernel_rfl) (fun _ _ _ h => h) (Or.inr ⟨by rfl, rfl⟩) (by assumption) ?_
    try simp only [Act.put, List.setIfInBounds_toArray, List.set_cons_zero, List.set_cons_succ]
    refine take_q (i := 20) (v := undef) rfl (by kernel_rfl) (by kernel_rfl) (by kernel_rfl) (fun _ _ _ h => h) (Or.inr ⟨by rfl, rfl⟩) (by assumption) ?_
    try simp only [Act.put, List.setIfInBounds_toArray, List.set_cons_zero, List.set_cons_succ]
    refine take_q (i := 21) (v := undef) rfl (by kernel_rfl) (by kernel_rfl) (by kernel_rfl) (fun _ _ _ h => h) (Or.inr ⟨by rfl, rfl⟩) (by assumption) ?_
    try simp only [Act.put, List.setIfInBounds_toArray, List.set_cons_zero, List.set_cons_succ]
    refine take_q (i := 22) (v := undef) rfl (by kernel_rfl) (by kernel_rfl) (by kernel_rfl) (fun _ _ _ h => h) (Or.inr ⟨by rfl, rfl⟩) (by assumption) ?_
    try simp only [Act.put, List.setIfInBounds_toArray, List.set_cons_zero, List.set_cons_succ]
    refine take_q (i := 23) (v := undef) rfl (by kernel_rfl) (by kernel_rfl) (by kernel_rfl) (fun _ _ _ h => h) (Or.inr ⟨by rfl, rfl⟩) (by assumption) ?_
    try simp only [Act.put, List.setIfInBounds_toArray, List.set_cons_zero, List.set_cons_succ]
    refine take_q (i := 24) (v := undef) rfl (by kernel_rfl) (by kernel_rfl) (by kernel_rfl) (fun _ _ _ h => h) (Or.inr ⟨by rfl, rfl⟩) (by assumption) ?_
    try simp only [Act.put, List.setIfInBounds_toArray, List.set_cons_zero, List.set_cons_succ]
    refine take_q (i := 25) (v := ?_) rfl (by kernel_rfl) (by kernel_rfl) (by kernel_rfl) (fun _ _ _ h => h) (Or.inl ⟨by rfl, ?_⟩) (by assumption) ?_
    rotate_left
    · intro w hSw; (try dsimp only at hSw); go_simp; (try simp only [HDEC.out]); (try simp only [HDEC2.out]); try with_reducible rfl
    try simp only [Act.put, List.setIfInBounds_toArray, List.set_cons_zero, List.set_cons_succ]
    refine take_q (i := 26) (v := ?_) rfl (by kernel_rfl) (by kernel_rfl) (by kernel_rfl) (fun _ _ _ h => h) (Or.inl ⟨by rfl, ?_⟩) (by assumption) ?_
    rotate_left
    · intro w hSw; (try dsimp only at hSw); go_simp; (try simp only [HDEC.out]); (try simp only [HDEC2.out]); try with_reducible rfl
    try simp only [Act.put, List.setIfInBounds_toArray, List.set_cons_zero, List.set_cons_succ]
    refine wpAnyH_done (by kernel_rfl) ?_ _
    go_wp2_with fail
    go_ret
    exact ⟨rfl, hHeld.2⟩
  · rw [hr] at HR
    rw [hp]
    clear hp hr
    unfold PfxV PfxC
    simp only [AddrV_eq, AddrC] at HR HW
    generalize widthN v = wd at *
    have HDEC := Lib.hid (show decide (0 ≤ b) = false by simp; omega)
    clear h0
    go_enter Tryz.func90, Tryz.ntmps90
    go_wp2_with fail
    have hA : Blk (w.alloc (Obj.cells #[.bool v, .int .u64 (hi n), .int .u64 (lo n), .int .i64 b] 28)) (w.heap.size) 28 (PfxC v n b) := (Blk.new' _ _ _ _ (by simp) : Blk (w.alloc (Obj.cells #[.bool v, .int .u64 (hi n), .int .u64 (lo n), .int .i64 b] 28)) (w.heap.size) 28 (PfxC v n b))
    have hbel : Below w.heap.size w (w.alloc (Obj.cells #[.bool v, .int .u64 (hi n), .int .u64 (lo n), .int .i64 b] 28)) := bl_
    have hsz : (w.alloc (Obj.cells #[.bool v, .int .u64 (hi n), .int .u64 (lo n), .int .i64 b] 28)).heap.size = w.heap.size + 1 := by simp
    generalize w.alloc (Obj.cells #[.bool v, .int .u64 (hi n), .int .u64 (lo n), .int .i64 b] 28) = w0 at *
    have hbel0 : Below w.heap.size w w0.drew := bl_
    refine wp_region_held_drew (S := fun w' => (w'.cell? ⟨w.heap.size, 0, none⟩ = some (.bool v) ∧ w'.cell? ⟨w.heap.size, 1, none⟩ = some (.int .u64 (hi n)) ∧ w'.cell? ⟨w.heap.size, 2, none⟩ = some (.int .u64 (lo n)) ∧ w'.cell? ⟨w.heap.size, 3, none⟩ = some (.int .i64 b) ∧ Blk w' w.heap.size 28 (PfxC v n b)) ∧ Below w.heap.size w w') (by kernel_rfl) ?_ (fun hHeld => ?_)
    · exact ⟨blk_pfx bk_, bl_⟩
    refine take_q (i := 0) (v := ?_) rfl (by kernel_rfl) (by kernel_rfl) (by kernel_rfl) (fun _ _ _ h => h) (Or.inl ⟨by rfl, ?_⟩) (by assumption) ?_
    rotate_left
    · intro w hSw; (try dsimp only at hSw); go_simp; (try simp only [HDEC.out]); (try simp only [HDEC2.out]); try with_reducible rfl
    try simp only [Act.put, List.setIfInBounds_toArray, List.set_cons_zero, List.set_cons_succ]
    refine take_q (i := 1) (v := ?_) rfl (by kernel_rfl) (by kernel_rfl) (by kernel_rfl) (fun _ _ _ h => h) (Or.inl ⟨by rfl, ?_⟩) (by assumption) ?_
    rotate_left
    · intro w hSw; (try dsimp only at hSw); go_simp; (try simp only [HDEC.out]); (try simp only [HDEC2.out]); try with_reducible rfl
    try simp only [Act.put, List.setIfInBounds_toArray, List.set_cons_zero, List.set_cons_succ]
    refine wpAnyH_ready (rs := [2]) (by kernel_rfl) (by simp) ?_
    refine cons_q rfl (fun K hK => ?_) AllReadyH.nil
    go_simp
    with_reducible refine (HR.out _).mono ?_; rintro e w1 ⟨rfl, hb1⟩
    refine hK.out _ _ ?_ (fun hHeld => ?_)
    · exact ⟨blk_pfx bk_, bl_⟩
    clear hK K
    try simp only [Act.put, List.setIfInBounds_toArray, List.set_cons_zero, List.set_cons_succ]
    refine take_q (i := 3) (v := ?_) rfl (by kernel_rfl) (by kernel_rfl) (by kernel_rfl) (fun _ _ _ h => h) (Or.inl ⟨by rfl, ?_⟩) (by assumption) ?_
    rotate_left
    · intro w hSw; (try dsimp only at hSw); go_simp; (try simp only [HDEC.out]); (try simp only [HDEC2.out]); try with_reducible rfl
    try simp only [Act.put, List.setIfInBounds_toArray, List.set_cons_zero, List.set_cons_succ]
    refine take_q (i := 4) (v := ?_) rfl (by kernel_rfl) (by kernel_rfl) (by kernel_rfl) (fun _ _ _ h => h) (Or.inl ⟨by rfl, ?_⟩) (by assumption) ?_
    rotate_left
    · intro w hSw; (try dsimp only at hSw); go_simp; (try simp only [HDEC.out]); (try simp only [HDEC2.out]); try with_reducible rfl
    try simp only [Act.put, List.setIfInBounds_toArray, List.set_cons_zero, List.set_cons_succ]
    refine take_q (i := 5) (v := ?_) rfl (by kernel_rfl) (by kernel_rfl) (by kernel_rfl) (fun _ _ _ h => h) (Or.inl ⟨by rfl, ?_⟩) (by assumption) ?_
    rotate_left
    · intro w hSw; (try dsimp only at hSw); go_simp; (try simp only [HDEC.out]); (try simp only [HDEC2.out]); try with_reducible rfl
    try simp only [Act.put, List.setIfInBounds_toArray, List.set_cons_zero, List.set_cons_succ]
    refine take_q (i := 6) (v := ?_) rfl (by kernel_rfl) (by kernel_rfl) (by kernel_rfl) (fun _ _ _ h => h) (Or.inl ⟨by rfl, ?_⟩) (by assumption) ?_
    rotate_left
    · intro w hSw; (try dsimp only at hSw); go_simp; (try simp only [HDEC.out]); (try simp only [HDEC2.out]); try with_reducible rfl
    try simp only [Act.put, List.setIfInBounds_toArray, List.set_cons_zero, List.set_cons_succ]
    refine take_q (i := 7) (v := ?_) rfl (by kernel_rfl) (by kernel_rfl) (by kernel_rfl) (fun _ _ _ h => h) (Or.inl ⟨by rfl, ?_⟩) (by assumption) ?_
    rotate_left
    · intro w hSw; (try dsimp only at hSw); go_simp; (try simp only [HDEC.out]); (try simp only [HDEC2.out]); try with_reducible rfl
    try simp only [Act.put, List.setIfInBounds_toArray, List.set_cons_zero, List.set_cons_succ]
    refine take_q (i := 8) (v := ?_) rfl (by kernel_rfl) (by kernel_rfl) (by kernel_rfl) (fun _ _ _ h => h) (Or.inl ⟨by rfl, ?_⟩) (by assumption) ?_
    rotate_left
    · intro w hSw; (try dsimp only at hSw); go_simp; (try simp only [HDEC.out]); (try simp only [HDEC2.out]); try with_reducible rfl
    try simp only [Act.put, List.setIfInBounds_toArray, List.set_cons_zero, List.set_cons_succ]
    refine take_q (i := 9) (v := undef) rfl (by kernel_rfl) (by kernel_rfl) (by kernel_rfl) (fun _ _ _ h => h) (Or.inr ⟨by rfl, rfl⟩) (by assumption) ?_
    try simp only [Act.put, List.setIfInBounds_toArray, List.set_cons_zero, List.set_cons_succ]
    refine take_q (i := 10) (v := undef) rfl (by kernel_rfl) (by kernel_rfl) (by kernel_rfl) (fun _ _ _ h => h) (Or.inr ⟨by rfl, rfl⟩) (by assumption) ?_
    try simp only [Act.put, List.setIfInBounds_toArray, List.set_cons_zero, List.set_cons_succ]
    refine take_q (i := 11) (v := undef) rfl (by kernel_rfl) (by kernel_rfl) (by kernel_rfl) (fun _ _ _ h => h) (Or.inr ⟨by rfl, rfl⟩) (by assumption) ?_
    try simp only [Act.put, List.setIfInBounds_toArray, List.set_cons_zero, List.set_cons_succ]
    refine take_q (i := 12) (v := undef) rfl (by kernel_rfl) (by kernel_rfl) (by kernel_rfl) (fun _ _ _ h => h) (Or.inr ⟨by rfl, rfl⟩) (by assumption) ?_
    try simp only [Act.put, List.setIfInBounds_toArray, List.set_cons_zero, List.set_cons_succ]
    refine take_q (i := 13) (v := undef) rfl (by kernel_rfl) (by kernel_rfl) (by kernel_rfl) (fun _ _ _ h => h) (Or.inr ⟨by rfl, rfl⟩) (by assumption) ?_
    try simp only [Act.put, List.setIfInBounds_toArray, List.set_cons_zero, List.set_cons_succ]
    refine take_q (i := 14) (v := undef) rfl (by kernel_rfl) (by kernel_rfl) (by kernel_rfl) (fun _ _ _ h => h) (Or.inr ⟨by rfl, rfl⟩) (by assumption) ?_
    try simp only [Act.put, List.setIfInBounds_toArray, List.set_cons_zero, List.set_cons_succ]
    refine take_q (i := 15) (v := ?_) rfl (by kernel_rfl) (by kernel_rfl) (by kernel_rfl) (fun _ _ _ h => h) (Or.inl ⟨by rfl, ?_⟩) (by assumption) ?_
    rotate_left
    · intro w hSw; (try dsimp only at hSw); go_simp; (try simp only [HDEC.out]); (try simp only [HDEC2.out]); try with_reducible rfl
    try simp only [Act.put, List.setIfInBounds_toArray, List.set_cons_zero, List.set_cons_succ]
    refine take_q (i := 16) (v := ?_) rfl (by kernel_rfl) (by kernel_rfl) (by kernel_rfl) (fun _ _ _ h => h) (Or.inl ⟨by rfl, ?_⟩) (by assumption) ?_
    rotate_left
    · intro w hSw; (try dsimp only at hSw); go_simp; (try simp only [HDEC.out]); (try simp only [HDEC2.out]); try with_reducible rfl
    try simp only [Act.put, List.setIfInBounds_toArray, List.set_cons_zero, List.set_cons_succ]
    refine take_q (i := 17) (v := undef) rfl (by kernel_rfl) (by kernel_rfl) (by kernel_rfl) (fun _ _ _ h => h) (Or.inr ⟨by rfl, rfl⟩) (by assumption) ?_
    try simp only [Act.put, List.setIfInBounds_toArray, List.set_cons_zero, List.set_cons_succ]
    refine take_q (i := 18) (v := undef) rfl (by kernel_rfl) (by kernel_rfl) (by kernel_rfl) (fun _ _ _ h => h) (Or.inr ⟨by rfl, rfl⟩) (by assumption) ?_
    try simp only [Act.put, List.setIfInBounds_toArray, List.set_cons_zero, List.set_cons_succ]
    refine take_q (i := 19) (v := undef) rfl (by kernel_rfl) (by kernel_rfl) (by kernel_rfl) (fun _ _ _ h => h) (Or.inr ⟨by rfl, rfl⟩) (by assumption) ?_
    try simp only [Act.put, List.setIfInBounds_toArray, List.set_cons_zero, List.set_cons_succ]
    refine take_q (i := 20) (v := undef) rfl (by kernel_rfl) (by kernel_rfl) (by kernel_rfl) (fun _ _ _ h => h) (Or.inr ⟨by rfl, rfl⟩) (by assumption) ?_
    try simp only [Act.put, List.setIfInBounds_toArray, List.set_cons_zero, List.set_cons_succ]
    refine take_q (i := 21) (v := undef) rfl (by kernel_rfl) (by kernel_rfl) (by kernel_rfl) (fun _ _ _ h => h) (Or.inr ⟨by rfl, rfl⟩) (by assumption) ?_
    try simp only [Act.put, List.setIfInBounds_toArray, List.set_cons_zero, List.set_cons_succ]
    refine take_q (i := 22) (v := undef) rfl (by kernel_rfl) (by kernel_rfl) (by kernel_rfl) (fun _ _ _ h => h) (Or.inr ⟨by rfl, rfl⟩) (by assumption) ?_
    try simp only [Act.put, List.setIfInBounds_toArray, List.set_cons_zero, List.set_cons_succ]
    refine take_q (i := 23) (v := undef) rfl (by kernel_rfl) (by kernel_rfl) (by kernel_rfl) (fun _ _ _ h => h) (Or.inr ⟨by rfl, rfl⟩) (by assumption) ?_
    try simp only [Act.put, List.setIfInBounds_toArray, List.set_cons_zero, List.set_cons_succ]
    refine take_q (i := 24) (v := undef) rfl (by kernel_rfl) (by kernel_rfl) (by kernel_rfl) (fun _ _ _ h => h) (Or.inr ⟨by rfl, rfl⟩) (by assumption) ?_
    try simp only [Act.put, List.setIfInBounds_toArray, List.set_cons_zero, List.set_cons_succ]
    refine take_q (i := 25) (v := ?_) rfl (by kernel_rfl) (by kernel_rfl) (by kernel_rfl) (fun _ _ _ h => h) (Or.inl ⟨by rfl, ?_⟩) (by assumption) ?_
    rotate_left
    · intro w hSw; (try dsimp only at hSw); go_simp; (try simp only [HDEC.out]); (try simp only [HDEC2.out]); try with_reducible rfl
    try simp only [Act.put, List.setIfInBounds_toArray, List.set_cons_zero, List.set_cons_succ]
    refine take_q (i := 26) (v := ?_) rfl (by kernel_rfl) (by kernel_rfl) (by kernel_rfl) (fun _ _ _ h => h) (Or.inl ⟨by rfl, ?_⟩) (by assumption) ?_
    rotate_left
    · intro w hSw; (try dsimp only at hSw); go_simp; (try simp only [HDEC.out]); (try simp only [HDEC2.out]); try with_reducible rfl
    try simp only [Act.put, List.setIfInBounds_toArray, List.set_cons_zero, List.set_cons_succ]
    refine wpAnyH_done (by kernel_rfl) ?_ _
    go_wp2_with fail
    go_ret
    exact ⟨rfl, hHeld.2⟩
  · rw [hr] at HR
    rw [hp]
    clear hp hr
    unfold PfxV PfxC
    simp only [AddrV_eq, AddrC] at HR HW
    generalize widthN v = wd at *
    have HDEC := Lib.hid (show decide (0 ≤ b) = true by simp; omega)
    have HDEC2 := Lib.hid (show decide (b ≤ (wd : Int)) = false by simp; omega)
    clear h0 h1
    go_enter Tryz.func90, Tryz.ntmps90
    go_wp2_with fail
    have hA : Blk (w.alloc (Obj.cells #[.bool v, .int .u64 (hi n), .int .u64 (lo n), .int .i64 b] 28)) (w.heap.size) 28 (PfxC v n b) := (Blk.new' _ _ _ _ (by simp) : Blk (w.alloc (Obj.cells #[.bool v, .int .u64 (hi n), .int .u64 (lo n), .int .i64 b] 28)) (w.heap.size) 28 (PfxC v n b))
    have hbel : Below w.heap.size w (w.alloc (Obj.cells #[.bool v, .int .u64 (hi n), .int .u64 (lo n), .int .i64 b] 28)) := bl_
    have hsz : (w.alloc (Obj.cells #[.bool v, .int .u64 (hi n), .int .u64 (lo n), .int .i64 b] 28)).heap.size = w.heap.size + 1 := by simp
    generalize w.alloc (Obj.cells #[.bool v, .int .u64 (hi n), .int .u64 (lo n), .int .i64 b] 28) = w0 at *
    have hbel0 : Below w.heap.size w w0.drew := bl_
    refine wp_region_held_drew (S := fun w' => (w'.cell? ⟨w.heap.size, 0, none⟩ = some (.bool v) ∧ w'.cell? ⟨w.heap.size, 1, none⟩ = some (.int .u64 (hi n)) ∧ w'.cell? ⟨w.heap.size, 2, none⟩ = some (.int .u64 (lo n)) ∧ w'.cell? ⟨w.heap.size, 3, none⟩ = some (.int .i64 b) ∧ Blk w' w.heap.size 28 (PfxC v n b)) ∧ Below w.heap.size w w') (by kernel_rfl) ?_ (fun hHeld => ?_)
    · exact ⟨blk_pfx bk_, bl_⟩
    refine take_q (i := 0) (v := ?_) rfl (by kernel_rfl) (by kernel_rfl) (by kernel_rfl) (fun _ _ _ h => h) (Or.inl ⟨by rfl, ?_⟩) (by assumption) ?_
    rotate_left
    · intro w hSw; (try dsimp only at hSw); go_simp; (try simp only [HDEC.out]); (try simp only [HDEC2.out]); try with_reducible rfl
    try simp only [Act.put, List.setIfInBounds_toArray, List.set_cons_zero, List.set_cons_succ]
    refine take_q (i := 1) (v := ?_) rfl (by kernel_rfl) (by kernel_rfl) (by kernel_rfl) (fun _ _ _ h => h) (Or.inl ⟨by rfl, ?_⟩) (by assumption) ?_
    rotate_left
    · intro w hSw; (try dsimp only at hSw); go_simp; (try simp only [HDEC.out]); (try simp only [HDEC2.out]); try with_reducible rfl
    try simp only [Act.put, List.setIfInBounds_toArray, List.set_cons_zero, List.set_cons_succ]
    refine wpAnyH_ready (rs := [2]) (by kernel_rfl) (by simp) ?_
    refine cons_q rfl (fun K hK => ?_) AllReadyH.nil
    go_simp
    with_reducible refine (HR.out _).mono ?_; rintro e w1 ⟨rfl, hb1⟩
    refine hK.out _ _ ?_ (fun hHeld => ?_)
    · exact ⟨blk_pfx bk_, bl_⟩
    clear hK K
    try simp only [Act.put, List.setIfInBounds_toArray, List.set_cons_zero, List.set_cons_succ]
    refine take_q (i := 3) (v := ?_) rfl (by kernel_rfl) (by kernel_rfl) (by kernel_rfl) (fun _ _ _ h => h) (Or.inl ⟨by rfl, ?_⟩) (by assumption) ?_
    rotate_left
    · intro w hSw; (try dsimp only at hSw); go_simp; (try simp only [HDEC.out]); (try simp only [HDEC2.out]); try with_reducible rfl
    try simp only [Act.put, List.setIfInBounds_toArray, List.set_cons_zero, List.set_cons_succ]
    refine take_q (i := 4) (v := ?_) rfl (by kernel_rfl) (by kernel_rfl) (by kernel_rfl) (fun _ _ _ h => h) (Or.inl ⟨by rfl, ?_⟩) (by assumption) ?_
    rotate_left
    · intro w hSw; (try dsimp only at hSw); go_simp; (try simp only [HDEC.out]); (try simp only [HDEC2.out]); try with_reducible rfl
    try simp only [Act.put, List.setIfInBounds_toArray, List.set_cons_zero, List.set_cons_succ]
    refine take_q (i := 5) (v := ?_) rfl (by kernel_rfl) (by kernel_rfl) (by kernel_rfl) (fun _ _ _ h => h) (Or.inl ⟨by rfl, ?_⟩) (by assumption) ?_
    rotate_left
    · intro w hSw; (try dsimp only at hSw); go_simp; (try simp only [HDEC.out]); (try simp only [HDEC2.out]); try with_reducible rfl
    try simp only [Act.put, List.setIfInBounds_toArray, List.set_cons_zero, List.set_cons_succ]
    refine take_q (i := 6) (v := ?_) rfl (by kernel_rfl) (by kernel_rfl) (by kernel_rfl) (fun _ _ _ h => h) (Or.inl ⟨by rfl, ?_⟩) (by assumption) ?_
    rotate_left
    · intro w hSw; (try dsimp only at hSw); go_simp; (try simp only [HDEC.out]); (try simp only [HDEC2.out]); try with_reducible rfl
    try simp only [Act.put, List.setIfInBounds_toArray, List.set_cons_zero, List.set_cons_succ]
    refine take_q (i := 7) (v := ?_) rfl (by kernel_rfl) (by kernel_rfl) (by kernel_rfl) (fun _ _ _ h => h) (Or.inl ⟨by rfl, ?_⟩) (by assumption) ?_
    rotate_left
    · intro w hSw; (try dsimp only at hSw); go_simp; (try simp only [HDEC.out]); (try simp only [HDEC2.out]); try with_reducible rfl
    try simp only [Act.put, List.setIfInBounds_toArray, List.set_cons_zero, List.set_cons_succ]
    refine take_q (i := 8) (v := ?_) rfl (by kernel_rfl) (by kernel_rfl) (by kernel_rfl) (fun _ _ _ h => h) (Or.inl ⟨by rfl, ?_⟩) (by assumption) ?_
    rotate_left
    · intro w hSw; (try dsimp only at hSw); go_simp; (try simp only [HDEC.out]); (try simp only [HDEC2.out]); try with_reducible rfl
    try simp only [Act.put, List.setIfInBounds_toArray, List.set_cons_zero, List.set_cons_succ]
    refine take_q (i := 9) (v := ?_) rfl (by kernel_rfl) (by kernel_rfl) (by kernel_rfl) (fun _ _ _ h => h) (Or.inl ⟨by rfl, ?_⟩) (by assumption) ?_
    rotate_left
    · intro w hSw; (try dsimp only at hSw); go_simp; (try simp only [HDEC.out]); (try simp only [HDEC2.out]); try with_reducible rfl
    try simp only [Act.put, List.setIfInBounds_toArray, List.set_cons_zero, List.set_cons_succ]
    refine take_q (i := 10) (v := ?_) rfl (by kernel_rfl) (by kernel_rfl) (by kernel_rfl) (fun _ _ _ h => h) (Or.inl ⟨by rfl, ?_⟩) (by assumption) ?_
    rotate_left
    · intro w hSw; (try dsimp only at hSw); go_simp; (try simp only [HDEC.out]); (try simp only [HDEC2.out]); try with_reducible rfl
    try simp only [Act.put, List.setIfInBounds_toArray, List.set_cons_zero, List.set_cons_succ]
    refine take_q (i := 11) (v := ?_) rfl (by kernel_rfl) (by kernel_rfl) (by kernel_rfl) (fun _ _ _ h => h) (Or.inl ⟨by rfl, ?_⟩) (by assumption) ?_
    rotate_left
    · intro w hSw; (try dsimp only at hSw); go_simp; (try simp only [HDEC.out]); (try simp only [HDEC2.out]); try with_reducible rfl
    try simp only [Act.put, List.setIfInBounds_toArray, List.set_cons_zero, List.set_cons_succ]
    refine take_q (i := 12) (v := ?_) rfl (by kernel_rfl) (by kernel_rfl) (by kernel_rfl) (fun _ _ _ h => h) (Or.inl ⟨by rfl, ?_⟩) (by assumption) ?_
    rotate_left
    · intro w hSw; (try dsimp only at hSw); go_simp; (try simp only [HDEC.out]); (try simp only [HDEC2.out]); try with_reducible rfl
    try simp only [Act.put, List.setIfInBounds_toArray, List.set_cons_zero, List.set_cons_succ]
    refine wpAnyH_ready (rs := [13]) (by kernel_rfl) (by simp) ?_
    refine cons_q rfl (fun K hK => ?_) AllReadyH.nil
    go_simp
    with_reducible refine (HW.out _).mono ?_; rintro e w2 ⟨rfl, hb2⟩
    refine hK.out _ _ ?_ (fun hHeld => ?_)
    · exact ⟨blk_pfx bk_, bl_⟩
    clear hK K
    try simp only [Act.put, List.setIfInBounds_toArray, List.set_cons_zero, List.set_cons_succ]
    refine take_q (i := 14) (v := ?_) rfl (by kernel_rfl) (by kernel_rfl) (by kernel_rfl) (fun _ _ _ h => h) (Or.inl ⟨by rfl, ?_⟩) (by assumption) ?_
    rotate_left
    · intro w hSw; (try dsimp only at hSw); go_simp; (try simp only [HDEC.out]); (try simp only [HDEC2.out]); try with_reducible rfl
    try simp only [Act.put, List.setIfInBounds_toArray, List.set_cons_zero, List.set_cons_succ]
    refine take_q (i := 15) (v := ?_) rfl (by kernel_rfl) (by kernel_rfl) (by kernel_rfl) (fun _ _ _ h => h) (Or.inl ⟨by rfl, ?_⟩) (by assumption) ?_
    rotate_left
    · intro w hSw; (try dsimp only at hSw); go_simp; (try simp only [HDEC.out]); (try simp only [HDEC2.out]); try with_reducible rfl
    try simp only [Act.put, List.setIfInBounds_toArray, List.set_cons_zero, List.set_cons_succ]
    refine take_q (i := 16) (v := ?_) rfl (by kernel_rfl) (by kernel_rfl) (by kernel_rfl) (fun _ _ _ h => h) (Or.inl ⟨by rfl, ?_⟩) (by assumption) ?_
    rotate_left
    · intro w hSw; (try dsimp only at hSw); go_simp; (try simp only [HDEC.out]); (try simp only [HDEC2.out]); try with_reducible rfl
    try simp only [Act.put, List.setIfInBounds_toArray, List.set_cons_zero, List.set_cons_succ]
    refine take_q (i := 17) (v := undef) rfl (by kernel_rfl) (by kernel_rfl) (by kernel_rfl) (fun _ _ _ h => h) (Or.inr ⟨by rfl, rfl⟩) (by assumption) ?_
    try simp only [Act.put, List.setIfInBounds_toArray, List.set_cons_zero, List.set_cons_succ]
    refine take_q (i := 18) (v := undef) rfl (by kernel_rfl) (by kernel_rfl) (by kernel_rfl) (fun _ _ _ h => h) (Or.inr ⟨by rfl, rfl⟩) (by assumption) ?_
    try simp only [Act.put, List.setIfInBounds_toArray, List.set_cons_zero, List.set_cons_succ]
    refine take_q (i := 19) (v := undef) rfl (by kernel_rfl) (by kernel_rfl) (by kernel_rfl) (fun _ _ _ h => h) (Or.inr ⟨by rfl, rfl⟩) (by assumption) ?_
    try simp only [Act.put, List.setIfInBounds_toArray, List.set_cons_zero, List.set_cons_succ]
    refine take_q (i := 20) (v := undef) rfl (by kernel_rfl) (by kernel_rfl) (by kernel_rfl) (fun _ _ _ h => h) (Or.inr ⟨by rfl, rfl⟩) (by assumption) ?_
    try simp only [Act.put, List.setIfInBounds_toArray, List.set_cons_zero, List.set_cons_succ]
    refine take_q (i := 21) (v := undef) rfl (by kernel_rfl) (by kernel_rfl) (by kernel_rfl) (fun _ _ _ h => h) (Or.inr ⟨by rfl, rfl⟩) (by assumption) ?_
    try simp only [Act.put, List.setIfInBounds_toArray, List.set_cons_zero, List.set_cons_succ]
    refine take_q (i := 22) (v := undef) rfl (by kernel_rfl) (by kernel_rfl) (by kernel_rfl) (fun _ _ _ h => h) (Or.inr ⟨by rfl, rfl⟩) (by assumption) ?_
    try simp only [Act.put, List.setIfInBounds_toArray, List.set_cons_zero, List.set_cons_succ]
    refine take_q (i := 23) (v := undef) rfl (by kernel_rfl) (by kernel_rfl) (by kernel_rfl) (fun _ _ _ h => h) (Or.inr ⟨by rfl, rfl⟩) (by assumption) ?_
    try simp only [Act.put, List.setIfInBounds_toArray, List.set_cons_zero, List.set_cons_succ]
    refine take_q (i := 24) (v := undef) rfl (by kernel_rfl) (by kernel_rfl) (by kernel_rfl) (fun _ _ _ h => h) (Or.inr ⟨by rfl, rfl⟩) (by assumption) ?_
    try simp only [Act.put, List.setIfInBounds_toArray, List.set_cons_zero, List.set_cons_succ]
    refine take_q (i := 25) (v := ?_) rfl (by kernel_rfl) (by kernel_rfl) (by kernel_rfl) (fun _ _ _ h => h) (Or.inl ⟨by rfl, ?_⟩) (by assumption) ?_
    rotate_left
    · intro w hSw; (try dsimp only at hSw); go_simp; (try simp only [HDEC.out]); (try simp only [HDEC2.out]); try with_reducible rfl
    try simp only [Act.put, List.setIfInBounds_toArray, List.set_cons_zero, List.set_cons_succ]
    refine take_q (i := 26) (v := ?_) rfl (by kernel_rfl) (by kernel_rfl) (by kernel_rfl) (fun _ _ _ h => h) (Or.inl ⟨by rfl, ?_⟩) (by assumption) ?_
    rotate_left
    · intro w hSw; (try dsimp only at hSw); go_simp; (try simp only [HDEC.out]); (try simp only [HDEC2.out]); try with_reducible rfl
    try simp only [Act.put, List.setIfInBounds_toArray, List.set_cons_zero, List.set_cons_succ]
    refine wpAnyH_done (by kernel_rfl) ?_ _
    go_wp2_with fail
    go_ret
    exact ⟨rfl, hHeld.2⟩
  · rw [hr] at HR
    rw [hp]
    have HF := Lib.hid (fun w => free_c v n b w h0 h1)
    have HN := Lib.hid (fun w => andn_c n (2 ^ fr v b - 1) w)
    rw [and_ones] at HN
    have hx : n % 2 ^ fr v b < 340282366920938463463374607431768211456 := Nat.lt_of_le_of_lt (Nat.mod_le _ _) hn
    clear hp hr
    unfold PfxV PfxC at *
    unfold numV at *
    simp only [AddrV_eq, AddrC] at HR HW
    generalize 2 ^ fr v b - 1 = F at *
    generalize n % 2 ^ fr v b = X at *
    generalize widthN v = wd at *
    have hc : (X = 0) ∨ ((hi X == 0 && lo X == 0) = false ∧ ¬ X = 0) := by
      by_cases h : X = 0
      · exact .inl h
      · refine .inr ⟨?_, h⟩
        have h2 := num_hi_lo hx
        rw [Bool.and_eq_false_iff]
        by_cases e : hi X = 0
        · right
          have : lo X ≠ 0 := fun e2 => by rw [e, e2] at h2; exact h h2.symm
          simpa using this
        · left; simpa using e
    have HDEC := Lib.hid (show decide (0 ≤ b) = true by simp; omega)
    have HDEC2 := Lib.hid (show decide (b ≤ (wd : Int)) = true by simp; omega)
    clear h0 h1
    obtain ⟨ok, hok⟩ : ∃ ok : Bool, ok = decide (X = 0) := ⟨_, rfl⟩
    have hq : (hi X == 0 && lo X == 0) = ok := by
      rcases hc with rfl | ⟨hc, hX0⟩
      · rw [hok]; rfl
      · rw [hok, hc]; simp [hX0]
    rw [← hok]
    clear hc hok
    generalize hi X = xh at *
    generalize lo X = xl at *
    have h3 : (xh = 0 ∧ xl = 0 ∧ ok = true) ∨ (xh = 0 ∧ ¬ xl = 0 ∧ ok = false) ∨ (¬ xh = 0 ∧ ok = false) := by
      rw [← hq]
      by_cases e1 : xh = 0
      · by_cases e2 : xl = 0
        · exact .inl ⟨e1, e2, by simp [e1, e2]⟩
        · exact .inr (.inl ⟨e1, e2, by simp [e2]⟩)
      · exact .inr (.inr ⟨e1, by simp [e1]⟩)
    clear hq
    rcases h3 with ⟨rfl, rfl, rfl⟩ | ⟨rfl, h3, rfl⟩ | ⟨h3, rfl⟩
    · go_enter Tryz.func90, Tryz.ntmps90
      go_wp2_with fail
      have hA : Blk (w.alloc (Obj.cells #[.bool v, .int .u64 (hi n), .int .u64 (lo n), .int .i64 b] 28)) (w.heap.size) 28 (PfxC v n b) := (Blk.new' _ _ _ _ (by simp) : Blk (w.alloc (Obj.cells #[.bool v, .int .u64 (hi n), .int .u64 (lo n), .int .i64 b] 28)) (w.heap.size) 28 (PfxC v n b))
      have hbel : Below w.heap.size w (w.alloc (Obj.cells #[.bool v, .int .u64 (hi n), .int .u64 (lo n), .int .i64 b] 28)) := bl_
      have hsz : (w.alloc (Obj.cells #[.bool v, .int .u64 (hi n), .int .u64 (lo n), .int .i64 b] 28)).heap.size = w.heap.size + 1 := by simp
      generalize w.alloc (Obj.cells #[.bool v, .int .u64 (hi n), .int .u64 (lo n), .int .i64 b] 28) = w0 at *
      have hbel0 : Below w.heap.size w w0.drew := bl_
      refine wp_region_held_drew (S := fun w' => (w'.cell? ⟨w.heap.size, 0, none⟩ = some (.bool v) ∧ w'.cell? ⟨w.heap.size, 1, none⟩ = some (.int .u64 (hi n)) ∧ w'.cell? ⟨w.heap.size, 2, none⟩ = some (.int .u64 (lo n)) ∧ w'.cell? ⟨w.heap.size, 3, none⟩ = some (.int .i64 b) ∧ Blk w' w.heap.size 28 (PfxC v n b)) ∧ Below w.heap.size w w') (by kernel_rfl) ?_ (fun hHeld => ?_)
      · exact ⟨blk_pfx bk_, bl_⟩
      refine take_q (i := 0) (v := ?_) rfl (by kernel_rfl) (by kernel_rfl) (by kernel_rfl) (fun _ _ _ h => h) (Or.inl ⟨by rfl, ?_⟩) (by assumption) ?_
      rotate_left
      · intro w hSw; (try dsimp only at hSw); go_simp; (try simp only [HDEC.out]); (try simp only [HDEC2.out]); try with_reducible rfl
      try simp only [Act.put, List.setIfInBounds_toArray, List.set_cons_zero, List.set_cons_succ]
      refine take_q (i := 1) (v := ?_) rfl (by kernel_rfl) (by kernel_rfl) (by kernel_rfl) (fun _ _ _ h => h) (Or.inl ⟨by rfl, ?_⟩) (by assumption) ?_
      rotate_left
      · intro w hSw; (try dsimp only at hSw); go_simp; (try simp only [HDEC.out]); (try simp only [HDEC2.out]); try with_reducible rfl
      try simp only [Act.put, List.setIfInBounds_toArray, List.set_cons_zero, List.set_cons_succ]
      refine wpAnyH_ready (rs := [2]) (by kernel_rfl) (by simp) ?_
      refine cons_q rfl (fun K hK => ?_) AllReadyH.nil
      go_simp
      with_reducible refine (HR.out _).mono ?_; rintro e w1 ⟨rfl, hb1⟩
      refine hK.out _ _ ?_ (fun hHeld => ?_)
      · exact ⟨blk_pfx bk_, bl_⟩
      clear hK K
      try simp only [Act.put, List.setIfInBounds_toArray, List.set_cons_zero, List.set_cons_succ]
      refine take_q (i := 3) (v := ?_) rfl (by kernel_rfl) (by kernel_rfl) (by kernel_rfl) (fun _ _ _ h => h) (Or.inl ⟨by rfl, ?_⟩) (by assumption) ?_
      rotate_left
      · intro w hSw; (try dsimp only at hSw); go_simp; (try simp only [HDEC.out]); (try simp only [HDEC2.out]); try with_reducible rfl
      try simp only [Act.put, List.setIfInBounds_toArray, List.set_cons_zero, List.set_cons_succ]
      refine take_q (i := 4) (v := ?_) rfl (by kernel_rfl) (by kernel_rfl) (by kernel_rfl) (fun _ _ _ h => h) (Or.inl ⟨by rfl, ?_⟩) (by assumption) ?_
      rotate_left
      · intro w hSw; (try dsimp only at hSw); go_simp; (try simp only [HDEC.out]); (try simp only [HDEC2.out]); try with_reducible rfl
      try simp only [Act.put, List.setIfInBounds_toArray, List.set_cons_zero, List.set_cons_succ]
      refine take_q (i := 5) (v := ?_) rfl (by kernel_rfl) (by kernel_rfl) (by kernel_rfl) (fun _ _ _ h => h) (Or.inl ⟨by rfl, ?_⟩) (by assumption) ?_
      rotate_left
      · intro w hSw; (try dsimp only at hSw); go_simp; (try simp only [HDEC.out]); (try simp only [HDEC2.out]); try with_reducible rfl
      try simp only [Act.put, List.setIfInBounds_toArray, List.set_cons_zero, List.set_cons_succ]
      refine take_q (i := 6) (v := ?_) rfl (by kernel_rfl) (by kernel_rfl) (by kernel_rfl) (fun _ _ _ h => h) (Or.inl ⟨by rfl, ?_⟩) (by assumption) ?_
      rotate_left
      · intro w hSw; (try dsimp only at hSw); go_simp; (try simp only [HDEC.out]); (try simp only [HDEC2.out]); try with_reducible rfl
      try simp only [Act.put, List.setIfInBounds_toArray, List.set_cons_zero, List.set_cons_succ]
      refine take_q (i := 7) (v := ?_) rfl (by kernel_rfl) (by kernel_rfl) (by kernel_rfl) (fun _ _ _ h => h) (Or.inl ⟨by rfl, ?_⟩) (by assumption) ?_
      rotate_left
      · intro w hSw; (try dsimp only at hSw); go_simp; (try simp only [HDEC.out]); (try simp only [HDEC2.out]); try with_reducible rfl
      try simp only [Act.put, List.setIfInBounds_toArray, List.set_cons_zero, List.set_cons_succ]
      refine take_q (i := 8) (v := ?_) rfl (by kernel_rfl) (by kernel_rfl) (by kernel_rfl) (fun _ _ _ h => h) (Or.inl ⟨by rfl, ?_⟩) (by assumption) ?_
      rotate_left
      · intro w hSw; (try dsimp only at hSw); go_simp; (try simp only [HDEC.out]); (try simp only [HDEC2.out]); try with_reducible rfl
      try simp only [Act.put, List.setIfInBounds_toArray, List.set_cons_zero, List.set_cons_succ]
      refine take_q (i := 9) (v := ?_) rfl (by kernel_rfl) (by kernel_rfl) (by kernel_rfl) (fun _ _ _ h => h) (Or.inl ⟨by rfl, ?_⟩) (by assumption) ?_
      rotate_left
      · intro w hSw; (try dsimp only at hSw); go_simp; (try simp only [HDEC.out]); (try simp only [HDEC2.out]); try with_reducible rfl
      try simp only [Act.put, List.setIfInBounds_toArray, List.set_cons_zero, List.set_cons_succ]
      refine take_q (i := 10) (v := ?_) rfl (by kernel_rfl) (by kernel_rfl) (by kernel_rfl) (fun _ _ _ h => h) (Or.inl ⟨by rfl, ?_⟩) (by assumption) ?_
      rotate_left
      · intro w hSw; (try dsimp only at hSw); go_simp; (try simp only [HDEC.out]); (try simp only [HDEC2.out]); try with_reducible rfl
      try simp only [Act.put, List.setIfInBounds_toArray, List.set_cons_zero, List.set_cons_succ]
      refine take_q (i := 11) (v := ?_) rfl (by kernel_rfl) (by kernel_rfl) (by kernel_rfl) (fun _ _ _ h => h) (Or.inl ⟨by rfl, ?_⟩) (by assumption) ?_
      rotate_left
      · intro w hSw; (try dsimp only at hSw); go_simp; (try simp only [HDEC.out]); (try simp only [HDEC2.out]); try with_reducible rfl
      try simp only [Act.put, List.setIfInBounds_toArray, List.set_cons_zero, List.set_cons_succ]
      refine take_q (i := 12) (v := ?_) rfl (by kernel_rfl) (by kernel_rfl) (by kernel_rfl) (fun _ _ _ h => h) (Or.inl ⟨by rfl, ?_⟩) (by assumption) ?_
      rotate_left
      · intro w hSw; (try dsimp only at hSw); go_simp; (try simp only [HDEC.out]); (try simp only [HDEC2.out]); try with_reducible rfl
      try simp only [Act.put, List.setIfInBounds_toArray, List.set_cons_zero, List.set_cons_succ]
      refine wpAnyH_ready (rs := [13]) (by kernel_rfl) (by simp) ?_
      refine cons_q rfl (fun K hK => ?_) AllReadyH.nil
      go_simp
      with_reducible refine (HW.out _).mono ?_; rintro e w2 ⟨rfl, hb2⟩
      refine hK.out _ _ ?_ (fun hHeld => ?_)
      · exact ⟨blk_pfx bk_, bl_⟩
      clear hK K
      try simp only [Act.put, List.setIfInBounds_toArray, List.set_cons_zero, List.set_cons_succ]
      refine take_q (i := 14) (v := ?_) rfl (by kernel_rfl) (by kernel_rfl) (by kernel_rfl) (fun _ _ _ h => h) (Or.inl ⟨by rfl, ?_⟩) (by assumption) ?_
      rotate_left
      · intro w hSw; (try dsimp only at hSw); go_simp; (try simp only [HDEC.out]); (try simp only [HDEC2.out]); try with_reducible rfl
      try simp only [Act.put, List.setIfInBounds_toArray, List.set_cons_zero, List.set_cons_succ]
      refine take_q (i := 15) (v := ?_) rfl (by kernel_rfl) (by kernel_rfl) (by kernel_rfl) (fun _ _ _ h => h) (Or.inl ⟨by rfl, ?_⟩) (by assumption) ?_
      rotate_left
      · intro w hSw; (try dsimp only at hSw); go_simp; (try simp only [HDEC.out]); (try simp only [HDEC2.out]); try with_reducible rfl
      try simp only [Act.put, List.setIfInBounds_toArray, List.set_cons_zero, List.set_cons_succ]
      refine take_q (i := 16) (v := ?_) rfl (by kernel_rfl) (by kernel_rfl) (by kernel_rfl) (fun _ _ _ h => h) (Or.inl ⟨by rfl, ?_⟩) (by assumption) ?_
      rotate_left
      · intro w hSw; (try dsimp only at hSw); go_simp; (try simp only [HDEC.out]); (try simp only [HDEC2.out]); try with_reducible rfl
      try simp only [Act.put, List.setIfInBounds_toArray, List.set_cons_zero, List.set_cons_succ]
      refine take_q (i := 17) (v := ?_) rfl (by kernel_rfl) (by kernel_rfl) (by kernel_rfl) (fun _ _ _ h => h) (Or.inl ⟨by rfl, ?_⟩) (by assumption) ?_
      rotate_left
      · intro w hSw; (try dsimp only at hSw); go_simp; (try simp only [HDEC.out]); (try simp only [HDEC2.out]); try with_reducible rfl
      try simp only [Act.put, List.setIfInBounds_toArray, List.set_cons_zero, List.set_cons_succ]
      refine take_q (i := 18) (v := ?_) rfl (by kernel_rfl) (by kernel_rfl) (by kernel_rfl) (fun _ _ _ h => h) (Or.inl ⟨by rfl, ?_⟩) (by assumption) ?_
      rotate_left
      · intro w hSw; (try dsimp only at hSw); go_simp; (try simp only [HDEC.out]); (try simp only [HDEC2.out]); try with_reducible rfl
      try simp only [Act.put, List.setIfInBounds_toArray, List.set_cons_zero, List.set_cons_succ]
      refine take_q (i := 19) (v := ?_) rfl (by kernel_rfl) (by kernel_rfl) (by kernel_rfl) (fun _ _ _ h => h) (Or.inl ⟨by rfl, ?_⟩) (by assumption) ?_
      rotate_left
      · intro w hSw; (try dsimp only at hSw); go_simp; (try simp only [HDEC.out]); (try simp only [HDEC2.out]); try with_reducible rfl
      try simp only [Act.put, List.setIfInBounds_toArray, List.set_cons_zero, List.set_cons_succ]
      refine take_q (i := 20) (v := ?_) rfl (by kernel_rfl) (by kernel_rfl) (by kernel_rfl) (fun _ _ _ h => h) (Or.inl ⟨by rfl, ?_⟩) (by assumption) ?_
      rotate_left
      · intro w hSw; (try dsimp only at hSw); go_simp; (try simp only [HDEC.out]); (try simp only [HDEC2.out]); try with_reducible rfl
      try simp only [Act.put, List.setIfInBounds_toArray, List.set_cons_zero, List.set_cons_succ]
      refine take_q (i := 23) (v := ?_) rfl (by kernel_rfl) (by kernel_rfl) (by kernel_rfl) (fun _ _ _ h => h) (Or.inl ⟨by rfl, ?_⟩) (by assumption) ?_
      rotate_left
      · intro w hSw; (try dsimp only at hSw); go_simp; (try simp only [HDEC.out]); (try simp only [HDEC2.out]); try with_reducible rfl
      try simp only [Act.put, List.setIfInBounds_toArray, List.set_cons_zero, List.set_cons_succ]
      refine wpAnyH_ready (rs := [21]) (by kernel_rfl) (by simp) ?_
      refine cons_q rfl (fun K hK => ?_) AllReadyH.nil
      go_simp
      with_reducible refine (HF.out _).mono ?_; rintro e w3 ⟨rfl, hb3⟩
      refine hK.out _ _ ?_ (fun hHeld => ?_)
      · exact ⟨blk_pfx bk_, bl_⟩
      clear hK K
      try simp only [Act.put, List.setIfInBounds_toArray, List.set_cons_zero, List.set_cons_succ]
      refine wpAnyH_ready (rs := [22]) (by kernel_rfl) (by simp) ?_
      refine cons_q rfl (fun K hK => ?_) AllReadyH.nil
      go_simp
      with_reducible refine (HN.out _).mono ?_; rintro e w4 ⟨rfl, hb4⟩
      refine hK.out _ _ ?_ (fun hHeld => ?_)
      · exact ⟨blk_pfx bk_, bl_⟩
      clear hK K
      try simp only [Act.put, List.setIfInBounds_toArray, List.set_cons_zero, List.set_cons_succ]
      refine take_q (i := 24) (v := ?_) rfl (by kernel_rfl) (by kernel_rfl) (by kernel_rfl) (fun _ _ _ h => h) (Or.inl ⟨by rfl, ?_⟩) (by assumption) ?_
      rotate_left
      · intro w hSw; (try dsimp only at hSw); go_simp; (try simp only [HDEC.out]); (try simp only [HDEC2.out]); try with_reducible rfl
      try simp only [Act.put, List.setIfInBounds_toArray, List.set_cons_zero, List.set_cons_succ]
      refine take_q (i := 25) (v := ?_) rfl (by kernel_rfl) (by kernel_rfl) (by kernel_rfl) (fun _ _ _ h => h) (Or.inl ⟨by rfl, ?_⟩) (by assumption) ?_
      rotate_left
      · intro w hSw; (try dsimp only at hSw); go_simp; (try simp only [HDEC.out]); (try simp only [HDEC2.out]); try with_reducible rfl
      try simp only [Act.put, List.setIfInBounds_toArray, List.set_cons_zero, List.set_cons_succ]
      refine take_q (i := 26) (v := ?_) rfl (by kernel_rfl) (by kernel_rfl) (by kernel_rfl) (fun _ _ _ h => h) (Or.inl ⟨by rfl, ?_⟩) (by assumption) ?_
      rotate_left
      · intro w hSw; (try dsimp only at hSw); go_simp; (try simp only [HDEC.out]); (try simp only [HDEC2.out]); try with_reducible rfl
      try simp only [Act.put, List.setIfInBounds_toArray, List.set_cons_zero, List.set_cons_succ]
      refine wpAnyH_done (by kernel_rfl) ?_ _
      go_wp2_with fail
      go_ret
      exact ⟨rfl, hHeld.2⟩
    · go_enter Tryz.func90, Tryz.ntmps90
      go_wp2_with fail
      have hA : Blk (w.alloc (Obj.cells #[.bool v, .int .u64 (hi n), .int .u64 (lo n), .int .i64 b] 28)) (w.heap.size) 28 (PfxC v n b) := (Blk.new' _ _ _ _ (by simp) : Blk (w.alloc (Obj.cells #[.bool v, .int .u64 (hi n), .int .u64 (lo n), .int .i64 b] 28)) (w.heap.size) 28 (PfxC v n b))
      have hbel : Below w.heap.size w (w.alloc (Obj.cells #[.bool v, .int .u64 (hi n), .int .u64 (lo n), .int .i64 b] 28)) := bl_
      have hsz : (w.alloc (Obj.cells #[.bool v, .int .u64 (hi n), .int .u64 (lo n), .int .i64 b] 28)).heap.size = w.heap.size + 1 := by simp
      generalize w.alloc (Obj.cells #[.bool v, .int .u64 (hi n), .int .u64 (lo n), .int .i64 b] 28) = w0 at *
      have hbel0 : Below w.heap.size w w0.drew := bl_
      refine wp_region_held_drew (S := fun w' => (w'.cell? ⟨w.heap.size, 0, none⟩ = some (.bool v) ∧ w'.cell? ⟨w.heap.size, 1, none⟩ = some (.int .u64 (hi n)) ∧ w'.cell? ⟨w.heap.size, 2, none⟩ = some (.int .u64 (lo n)) ∧ w'.cell? ⟨w.heap.size, 3, none⟩ = some (.int .i64 b) ∧ Blk w' w.heap.size 28 (PfxC v n b)) ∧ Below w.heap.size w w') (by kernel_rfl) ?_ (fun hHeld => ?_)
      · exact ⟨blk_pfx bk_, bl_⟩
      refine take_q (i := 0) (v := ?_) rfl (by kernel_rfl) (by kernel_rfl) (by kernel_rfl) (fun _ _ _ h => h) (Or.inl ⟨by rfl, ?_⟩) (by assumption) ?_
      rotate_left
      · intro w hSw; (try dsimp only at hSw); go_simp; (try simp only [HDEC.out]); (try simp only [HDEC2.out]); try with_reducible rfl
      try simp only [Act.put, List.setIfInBounds_toArray, List.set_cons_zero, List.set_cons_succ]
      refine take_q (i := 1) (v := ?_) rfl (by kernel_rfl) (by kernel_rfl) (by kernel_rfl) (fun _ _ _ h => h) (Or.inl ⟨by rfl, ?_⟩) (by assumption) ?_
      rotate_left
      · intro w hSw; (try dsimp only at hSw); go_simp; (try simp only [HDEC.out]); (try simp only [HDEC2.out]); try with_reducible rfl
      try simp only [Act.put, List.setIfInBounds_toArray, List.set_cons_zero, List.set_cons_succ]
      refine wpAnyH_ready (rs := [2]) (by kernel_rfl) (by simp) ?_
      refine cons_q rfl (fun K hK => ?_) AllReadyH.nil
      go_simp
      with_reducible refine (HR.out _).mono ?_; rintro e w1 ⟨rfl, hb1⟩
      refine hK.out _ _ ?_ (fun hHeld => ?_)
      · exact ⟨blk_pfx bk_, bl_⟩
      clear hK K
      try simp only [Act.put, List.setIfInBounds_toArray, List.set_cons_zero, List.set_cons_succ]
      refine take_q (i := 3) (v := ?_) rfl (by kernel_rfl) (by kernel_rfl) (by kernel_rfl) (fun _ _ _ h => h) (Or.inl ⟨by rfl, ?_⟩) (by assumption) ?_
      rotate_left
      · intro w hSw; (try dsimp only at hSw); go_simp; (try simp only [HDEC.out]); (try simp only [HDEC2.out]); try with_reducible rfl
      try simp only [Act.put, List.setIfInBounds_toArray, List.set_cons_zero, List.set_cons_succ]
      refine take_q (i := 4) (v := ?_) rfl (by kernel_rfl) (by kernel_rfl) (by kernel_rfl) (fun _ _ _ h => h) (Or.inl ⟨by rfl, ?_⟩) (by assumption) ?_
      rotate_left
      · intro w hSw; (try dsimp only at hSw); go_simp; (try simp only [HDEC.out]); (try simp only [HDEC2.out]); try with_reducible rfl
      try simp only [Act.put, List.setIfInBounds_toArray, List.set_cons_zero, List.set_cons_succ]
      refine take_q (i := 5) (v := ?_) rfl (by kernel_rfl) (by kernel_rfl) (by kernel_rfl) (fun _ _ _ h => h) (Or.inl ⟨by rfl, ?_⟩) (by assumption) ?_
      rotate_left
      · intro w hSw; (try dsimp only at hSw); go_simp; (try simp only [HDEC.out]); (try simp only [HDEC2.out]); try with_reducible rfl
      try simp only [Act.put, List.setIfInBounds_toArray, List.set_cons_zero, List.set_cons_succ]
      refine take_q (i := 6) (v := ?_) rfl (by kernel_rfl) (by kernel_rfl) (by kernel_rfl) (fun _ _ _ h => h) (Or.inl ⟨by rfl, ?_⟩) (by assumption) ?_
      rotate_left
      · intro w hSw; (try dsimp only at hSw); go_simp; (try simp only [HDEC.out]); (try simp only [HDEC2.out]); try with_reducible rfl
      try simp only [Act.put, List.setIfInBounds_toArray, List.set_cons_zero, List.set_cons_succ]
      refine take_q (i := 7) (v := ?_) rfl (by kernel_rfl) (by kernel_rfl) (by kernel_rfl) (fun _ _ _ h => h) (Or.inl ⟨by rfl, ?_⟩) (by assumption) ?_
      rotate_left
      · intro w hSw; (try dsimp only at hSw); go_simp; (try simp only [HDEC.out]); (try simp only [HDEC2.out]); try with_reducible rfl
      try simp only [Act.put, List.setIfInBounds_toArray, List.set_cons_zero, List.set_cons_succ]
      refine take_q (i := 8) (v := ?_) rfl (by kernel_rfl) (by kernel_rfl) (by kernel_rfl) (fun _ _ _ h => h) (Or.inl ⟨by rfl, ?_⟩) (by assumption) ?_
      rotate_left
      · intro w hSw; (try dsimp only at hSw); go_simp; (try simp only [HDEC.out]); (try simp only [HDEC2.out]); try with_reducible rfl
      try simp only [Act.put, List.setIfInBounds_toArray, List.set_cons_zero, List.set_cons_succ]
      refine take_q (i := 9) (v := ?_) rfl (by kernel_rfl) (by kernel_rfl) (by kernel_rfl) (fun _ _ _ h => h) (Or.inl ⟨by rfl, ?_⟩) (by assumption) ?_
      rotate_left
      · intro w hSw; (try dsimp only at hSw); go_simp; (try simp only [HDEC.out]); (try simp only [HDEC2.out]); try with_reducible rfl
      try simp only [Act.put, List.setIfInBounds_toArray, List.set_cons_zero, List.set_cons_succ]
      refine take_q (i := 10) (v := ?_) rfl (by kernel_rfl) (by kernel_rfl) (by kernel_rfl) (fun _ _ _ h => h) (Or.inl ⟨by rfl, ?_⟩) (by assumption) ?_
      rotate_left
      · intro w hSw; (try dsimp only at hSw); go_simp; (try simp only [HDEC.out]); (try simp only [HDEC2.out]); try with_reducible rfl
      try simp only [Act.put, List.setIfInBounds_toArray, List.set_cons_zero, List.set_cons_succ]
      refine take_q (i := 11) (v := ?_) rfl (by kernel_rfl) (by kernel_rfl) (by kernel_rfl) (fun _ _ _ h => h) (Or.inl ⟨by rfl, ?_⟩) (by assumption) ?_
      rotate_left
      · intro w hSw; (try dsimp only at hSw); go_simp; (try simp only [HDEC.out]); (try simp only [HDEC2.out]); try with_reducible rfl
      try simp only [Act.put, List.setIfInBounds_toArray, List.set_cons_zero, List.set_cons_succ]
      refine take_q (i := 12) (v := ?_) rfl (by kernel_rfl) (by kernel_rfl) (by kernel_rfl) (fun _ _ _ h => h) (Or.inl ⟨by rfl, ?_⟩) (by assumption) ?_
      rotate_left
      · intro w hSw; (try dsimp only at hSw); go_simp; (try simp only [HDEC.out]); (try simp only [HDEC2.out]); try with_reducible rfl
      try simp only [Act.put, List.setIfInBounds_toArray, List.set_cons_zero, List.set_cons_succ]
      refine wpAnyH_ready (rs := [13]) (by kernel_rfl) (by simp) ?_
      refine cons_q rfl (fun K hK => ?_) AllReadyH.nil
      go_simp
      with_reducible refine (HW.out _).mono ?_; rintro e w2 ⟨rfl, hb2⟩
      refine hK.out _ _ ?_ (fun hHeld => ?_)
      · exact ⟨blk_pfx bk_, bl_⟩
      clear hK K
      try simp only [Act.put, List.setIfInBounds_toArray, List.set_cons_zero, List.set_cons_succ]
      refine take_q (i := 14) (v := ?_) rfl (by kernel_rfl) (by kernel_rfl) (by kernel_rfl) (fun _ _ _ h => h) (Or.inl ⟨by rfl, ?_⟩) (by assumption) ?_
      rotate_left
      · intro w hSw; (try dsimp only at hSw); go_simp; (try simp only [HDEC.out]); (try simp only [HDEC2.out]); try with_reducible rfl
      try simp only [Act.put, List.setIfInBounds_toArray, List.set_cons_zero, List.set_cons_succ]
      refine take_q (i := 15) (v := ?_) rfl (by kernel_rfl) (by kernel_rfl) (by kernel_rfl) (fun _ _ _ h => h) (Or.inl ⟨by rfl, ?_⟩) (by assumption) ?_
      rotate_left
      · intro w hSw; (try dsimp only at hSw); go_simp; (try simp only [HDEC.out]); (try simp only [HDEC2.out]); try with_reducible rfl
      try simp only [Act.put, List.setIfInBounds_toArray, List.set_cons_zero, List.set_cons_succ]
      refine take_q (i := 16) (v := ?_) rfl (by kernel_rfl) (by kernel_rfl) (by kernel_rfl) (fun _ _ _ h => h) (Or.inl ⟨by rfl, ?_⟩) (by assumption) ?_
      rotate_left
      · intro w hSw; (try dsimp only at hSw); go_simp; (try simp only [HDEC.out]); (try simp only [HDEC2.out]); try with_reducible rfl
      try simp only [Act.put, List.setIfInBounds_toArray, List.set_cons_zero, List.set_cons_succ]
      refine take_q (i := 17) (v := ?_) rfl (by kernel_rfl) (by kernel_rfl) (by kernel_rfl) (fun _ _ _ h => h) (Or.inl ⟨by rfl, ?_⟩) (by assumption) ?_
      rotate_left
      · intro w hSw; (try dsimp only at hSw); go_simp; (try simp only [HDEC.out]); (try simp only [HDEC2.out]); try with_reducible rfl
      try simp only [Act.put, List.setIfInBounds_toArray, List.set_cons_zero, List.set_cons_succ]
      refine take_q (i := 18) (v := ?_) rfl (by kernel_rfl) (by kernel_rfl) (by kernel_rfl) (fun _ _ _ h => h) (Or.inl ⟨by rfl, ?_⟩) (by assumption) ?_
      rotate_left
      · intro w hSw; (try dsimp only at hSw); go_simp; (try simp only [HDEC.out]); (try simp only [HDEC2.out]); try with_reducible rfl
      try simp only [Act.put, List.setIfInBounds_toArray, List.set_cons_zero, List.set_cons_succ]
      refine take_q (i := 19) (v := ?_) rfl (by kernel_rfl) (by kernel_rfl) (by kernel_rfl) (fun _ _ _ h => h) (Or.inl ⟨by rfl, ?_⟩) (by assumption) ?_
      rotate_left
      · intro w hSw; (try dsimp only at hSw); go_simp; (try simp only [HDEC.out]); (try simp only [HDEC2.out]); try with_reducible rfl
      try simp only [Act.put, List.setIfInBounds_toArray, List.set_cons_zero, List.set_cons_succ]
      refine take_q (i := 20) (v := ?_) rfl (by kernel_rfl) (by kernel_rfl) (by kernel_rfl) (fun _ _ _ h => h) (Or.inl ⟨by rfl, ?_⟩) (by assumption) ?_
      rotate_left
      · intro w hSw; (try dsimp only at hSw); go_simp; (try simp only [HDEC.out]); (try simp only [HDEC2.out]); try with_reducible rfl
      try simp only [Act.put, List.setIfInBounds_toArray, List.set_cons_zero, List.set_cons_succ]
      refine take_q (i := 23) (v := ?_) rfl (by kernel_rfl) (by kernel_rfl) (by kernel_rfl) (fun _ _ _ h => h) (Or.inl ⟨by rfl, ?_⟩) (by assumption) ?_
      rotate_left
      · intro w hSw; (try dsimp only at hSw); go_simp; (try simp only [HDEC.out]); (try simp only [HDEC2.out]); try with_reducible rfl
      try simp only [Act.put, List.setIfInBounds_toArray, List.set_cons_zero, List.set_cons_succ]
      refine wpAnyH_ready (rs := [21]) (by kernel_rfl) (by simp) ?_
      refine cons_q rfl (fun K hK => ?_) AllReadyH.nil
      go_simp
      with_reducible refine (HF.out _).mono ?_; rintro e w3 ⟨rfl, hb3⟩
      refine hK.out _ _ ?_ (fun hHeld => ?_)
      · exact ⟨blk_pfx bk_, bl_⟩
      clear hK K
      try simp only [Act.put, List.setIfInBounds_toArray, List.set_cons_zero, List.set_cons_succ]
      refine wpAnyH_ready (rs := [22]) (by kernel_rfl) (by simp) ?_
      refine cons_q rfl (fun K hK => ?_) AllReadyH.nil
      go_simp
      with_reducible refine (HN.out _).mono ?_; rintro e w4 ⟨rfl, hb4⟩
      refine hK.out _ _ ?_ (fun hHeld => ?_)
      · exact ⟨blk_pfx bk_, bl_⟩
      clear hK K
      try simp only [Act.put, List.setIfInBounds_toArray, List.set_cons_zero, List.set_cons_succ]
      refine take_q (i := 24) (v := ?_) rfl (by kernel_rfl) (by kernel_rfl) (by kernel_rfl) (fun _ _ _ h => h) (Or.inl ⟨by rfl, ?_⟩) (by assumption) ?_
      rotate_left
      · intro w hSw; (try dsimp only at hSw); go_simp; (try simp only [HDEC.out]); (try simp only [HDEC2.out]); try with_reducible rfl
      try simp only [Act.put, List.setIfInBounds_toArray, List.set_cons_zero, List.set_cons_succ]
      refine take_q (i := 25) (v := ?_) rfl (by kernel_rfl) (by kernel_rfl) (by kernel_rfl) (fun _ _ _ h => h) (Or.inl ⟨by rfl, ?_⟩) (by assumption) ?_
      rotate_left
      · intro w hSw; (try dsimp only at hSw); go_simp; (try simp only [HDEC.out]); (try simp only [HDEC2.out]); try with_reducible rfl
      try simp only [Act.put, List.setIfInBounds_toArray, List.set_cons_zero, List.set_cons_succ]
      refine take_q (i := 26) (v := ?_) rfl (by kernel_rfl) (by kernel_rfl) (by kernel_rfl) (fun _ _ _ h => h) (Or.inl ⟨by rfl, ?_⟩) (by assumption) ?_
      rotate_left
      · intro w hSw; (try dsimp only at hSw); go_simp; (try simp only [HDEC.out]); (try simp only [HDEC2.out]); try with_reducible rfl
      try simp only [Act.put, List.setIfInBounds_toArray, List.set_cons_zero, List.set_cons_succ]
      refine wpAnyH_done (by kernel_rfl) ?_ _
      go_wp2_with fail
      go_ret
      exact ⟨rfl, hHeld.2⟩
    · go_enter Tryz.func90, Tryz.ntmps90
      go_wp2_with fail
      have hA : Blk (w.alloc (Obj.cells #[.bool v, .int .u64 (hi n), .int .u64 (lo n), .int .i64 b] 28)) (w.heap.size) 28 (PfxC v n b) := (Blk.new' _ _ _ _ (by simp) : Blk (w.alloc (Obj.cells #[.bool v, .int .u64 (hi n), .int .u64 (lo n), .int .i64 b] 28)) (w.heap.size) 28 (PfxC v n b))
      have hbel : Below w.heap.size w (w.alloc (Obj.cells #[.bool v, .int .u64 (hi n), .int .u64 (lo n), .int .i64 b] 28)) := bl_
      have hsz : (w.alloc (Obj.cells #[.bool v, .int .u64 (hi n), .int .u64 (lo n), .int .i64 b] 28)).heap.size = w.heap.size + 1 := by simp
      generalize w.alloc (Obj.cells #[.bool v, .int .u64 (hi n), .int .u64 (lo n), .int .i64 b] 28) = w0 at *
      have hbel0 : Below w.heap.size w w0.drew := bl_
      refine wp_region_held_drew (S := fun w' => (w'.cell? ⟨w.heap.size, 0, none⟩ = some (.bool v) ∧ w'.cell? ⟨w.heap.size, 1, none⟩ = some (.int .u64 (hi n)) ∧ w'.cell? ⟨w.heap.size, 2, none⟩ = some (.int .u64 (lo n)) ∧ w'.cell? ⟨w.heap.size, 3, none⟩ = some (.int .i64 b) ∧ Blk w' w.heap.size 28 (PfxC v n b)) ∧ Below w.heap.size w w') (by kernel_rfl) ?_ (fun hHeld => ?_)
      · exact ⟨blk_pfx bk_, bl_⟩
      refine take_q (i := 0) (v := ?_) rfl (by kernel_rfl) (by kernel_rfl) (by kernel_rfl) (fun _ _ _ h => h) (Or.inl ⟨by rfl, ?_⟩) (by assumption) ?_
      rotate_left
      · intro w hSw; (try dsimp only at hSw); go_simp; (try simp only [HDEC.out]); (try simp only [HDEC2.out]); try with_reducible rfl
      try simp only [Act.put, List.setIfInBounds_toArray, List.set_cons_zero, List.set_cons_succ]
      refine take_q (i := 1) (v := ?_) rfl (by kernel_rfl) (by kernel_rfl) (by kernel_rfl) (fun _ _ _ h => h) (Or.inl ⟨by rfl, ?_⟩) (by assumption) ?_
      rotate_left
      · intro w hSw; (try dsimp only at hSw); go_simp; (try simp only [HDEC.out]); (try simp only [HDEC2.out]); try with_reducible rfl
      try simp only [Act.put, List.setIfInBounds_toArray, List.set_cons_zero, List.set_cons_succ]
      refine wpAnyH_ready (rs := [2]) (by kernel_rfl) (by simp) ?_
      refine cons_q rfl (fun K hK => ?_) AllReadyH.nil
      go_simp
      with_reducible refine (HR.out _).mono ?_; rintro e w1 ⟨rfl, hb1⟩
      refine hK.out _ _ ?_ (fun hHeld => ?_)
      · exact ⟨blk_pfx bk_, bl_⟩
      clear hK K
      try simp only [Act.put, List.setIfInBounds_toArray, List.set_cons_zero, List.set_cons_succ]
      refine take_q (i := 3) (v := ?_) rfl (by kernel_rfl) (by kernel_rfl) (by kernel_rfl) (fun _ _ _ h => h) (Or.inl ⟨by rfl, ?_⟩) (by assumption) ?_
      rotate_left
      · intro w hSw; (try dsimp only at hSw); go_simp; (try simp only [HDEC.out]); (try simp only [HDEC2.out]); try with_reducible rfl
      try simp only [Act.put, List.setIfInBounds_toArray, List.set_cons_zero, List.set_cons_succ]
      refine take_q (i := 4) (v := ?_) rfl (by kernel_rfl) (by kernel_rfl) (by kernel_rfl) (fun _ _ _ h => h) (Or.inl ⟨by rfl, ?_⟩) (by assumption) ?_
      rotate_left
      · intro w hSw; (try dsimp only at hSw); go_simp; (try simp only [HDEC.out]); (try simp only [HDEC2.out]); try with_reducible rfl
      try simp only [Act.put, List.setIfInBounds_toArray, List.set_cons_zero, List.set_cons_succ]
      refine take_q (i := 5) (v := ?_) rfl (by kernel_rfl) (by kernel_rfl) (by kernel_rfl) (fun _ _ _ h => h) (Or.inl ⟨by rfl, ?_⟩) (by assumption) ?_
      rotate_left
      · intro w hSw; (try dsimp only at hSw); go_simp; (try simp only [HDEC.out]); (try simp only [HDEC2.out]); try with_reducible rfl
      try simp only [Act.put, List.setIfInBounds_toArray, List.set_cons_zero, List.set_cons_succ]
      refine take_q (i := 6) (v := ?_) rfl (by kernel_rfl) (by kernel_rfl) (by kernel_rfl) (fun _ _ _ h => h) (Or.inl ⟨by rfl, ?_⟩) (by assumption) ?_
      rotate_left
      · intro w hSw; (try dsimp only at hSw); go_simp; (try simp only [HDEC.out]); (try simp only [HDEC2.out]); try with_reducible rfl
      try simp only [Act.put, List.setIfInBounds_toArray, List.set_cons_zero, List.set_cons_succ]
      refine take_q (i := 7) (v := ?_) rfl (by kernel_rfl) (by kernel_rfl) (by kernel_rfl) (fun _ _ _ h => h) (Or.inl ⟨by rfl, ?_⟩) (by assumption) ?_
      rotate_left
      · intro w hSw; (try dsimp only at hSw); go_simp; (try simp only [HDEC.out]); (try simp only [HDEC2.out]); try with_reducible rfl
      try simp only [Act.put, List.setIfInBounds_toArray, List.set_cons_zero, List.set_cons_succ]
      refine take_q (i := 8) (v := ?_) rfl (by kernel_rfl) (by kernel_rfl) (by kernel_rfl) (fun _ _ _ h => h) (Or.inl ⟨by rfl, ?_⟩) (by assumption) ?_
      rotate_left
      · intro w hSw; (try dsimp only at hSw); go_simp; (try simp only [HDEC.out]); (try simp only [HDEC2.out]); try with_reducible rfl
      try simp only [Act.put, List.setIfInBounds_toArray, List.set_cons_zero, List.set_cons_succ]
      refine take_q (i := 9) (v := ?_) rfl (by kernel_rfl) (by kernel_rfl) (by kernel_rfl) (fun _ _ _ h => h) (Or.inl ⟨by rfl, ?_⟩) (by assumption) ?_
      rotate_left
      · intro w hSw; (try dsimp only at hSw); go_simp; (try simp only [HDEC.out]); (try simp only [HDEC2.out]); try with_reducible rfl
      try simp only [Act.put, List.setIfInBounds_toArray, List.set_cons_zero, List.set_cons_succ]
      refine take_q (i := 10) (v := ?_) rfl (by kernel_rfl) (by kernel_rfl) (by kernel_rfl) (fun _ _ _ h => h) (Or.inl ⟨by rfl, ?_⟩) (by assumption) ?_
      rotate_left
      · intro w hSw; (try dsimp only at hSw); go_simp; (try simp only [HDEC.out]); (try simp only [HDEC2.out]); try with_reducible rfl
      try simp only [Act.put, List.setIfInBounds_toArray, List.set_cons_zero, List.set_cons_succ]
      refine take_q (i := 11) (v := ?_) rfl (by kernel_rfl) (by kernel_rfl) (by kernel_rfl) (fun _ _ _ h => h) (Or.inl ⟨by rfl, ?_⟩) (by assumption) ?_
      rotate_left
      · intro w hSw; (try dsimp only at hSw); go_simp; (try simp only [HDEC.out]); (try simp only [HDEC2.out]); try with_reducible rfl
      try simp only [Act.put, List.setIfInBounds_toArray, List.set_cons_zero, List.set_cons_succ]
      refine take_q (i := 12) (v := ?_) rfl (by kernel_rfl) (by kernel_rfl) (by kernel_rfl) (fun _ _ _ h => h) (Or.inl ⟨by rfl, ?_⟩) (by assumption) ?_
      rotate_left
      · intro w hSw; (try dsimp only at hSw); go_simp; (try simp only [HDEC.out]); (try simp only [HDEC2.out]); try with_reducible rfl
      try simp only [Act.put, List.setIfInBounds_toArray, List.set_cons_zero, List.set_cons_succ]
      refine wpAnyH_ready (rs := [13]) (by kernel_rfl) (by simp) ?_
      refine cons_q rfl (fun K hK => ?_) AllReadyH.nil
      go_simp
      with_reducible refine (HW.out _).mono ?_; rintro e w2 ⟨rfl, hb2⟩
      refine hK.out _ _ ?_ (fun hHeld => ?_)
      · exact ⟨blk_pfx bk_, bl_⟩
      clear hK K
      try simp only [Act.put, List.setIfInBounds_toArray, List.set_cons_zero, List.set_cons_succ]
      refine take_q (i := 14) (v := ?_) rfl (by kernel_rfl) (by kernel_rfl) (by kernel_rfl) (fun _ _ _ h => h) (Or.inl ⟨by rfl, ?_⟩) (by assumption) ?_
      rotate_left
      · intro w hSw; (try dsimp only at hSw); go_simp; (try simp only [HDEC.out]); (try simp only [HDEC2.out]); try with_reducible rfl
      try simp only [Act.put, List.setIfInBounds_toArray, List.set_cons_zero, List.set_cons_succ]
      refine take_q (i := 15) (v := ?_) rfl (by kernel_rfl) (by kernel_rfl) (by kernel_rfl) (fun _ _ _ h => h) (Or.inl ⟨by rfl, ?_⟩) (by assumption) ?_
      rotate_left
      · intro w hSw; (try dsimp only at hSw); go_simp; (try simp only [HDEC.out]); (try simp only [HDEC2.out]); try with_reducible rfl
      try simp only [Act.put, List.setIfInBounds_toArray, List.set_cons_zero, List.set_cons_succ]
      refine take_q (i := 16) (v := ?_) rfl (by kernel_rfl) (by kernel_rfl) (by kernel_rfl) (fun _ _ _ h => h) (Or.inl ⟨by rfl, ?_⟩) (by assumption) ?_
      rotate_left
      · intro w hSw; (try dsimp only at hSw); go_simp; (try simp only [HDEC.out]); (try simp only [HDEC2.out]); try with_reducible rfl
      try simp only [Act.put, List.setIfInBounds_toArray, List.set_cons_zero, List.set_cons_succ]
      refine take_q (i := 17) (v := ?_) rfl (by kernel_rfl) (by kernel_rfl) (by kernel_rfl) (fun _ _ _ h => h) (Or.inl ⟨by rfl, ?_⟩) (by assumption) ?_
      rotate_left
      · intro w hSw; (try dsimp only at hSw); go_simp; (try simp only [HDEC.out]); (try simp only [HDEC2.out]); try with_reducible rfl
      try simp only [Act.put, List.setIfInBounds_toArray, List.set_cons_zero, List.set_cons_succ]
      refine take_q (i := 18) (v := ?_) rfl (by kernel_rfl) (by kernel_rfl) (by kernel_rfl) (fun _ _ _ h => h) (Or.inl ⟨by rfl, ?_⟩) (by assumption) ?_
      rotate_left
      · intro w hSw; (try dsimp only at hSw); go_simp; (try simp only [HDEC.out]); (try simp only [HDEC2.out]); try with_reducible rfl
      try simp only [Act.put, List.setIfInBounds_toArray, List.set_cons_zero, List.set_cons_succ]
      refine take_q (i := 19) (v := ?_) rfl (by kernel_rfl) (by kernel_rfl) (by kernel_rfl) (fun _ _ _ h => h) (Or.inl ⟨by rfl, ?_⟩) (by assumption) ?_
      rotate_left
      · intro w hSw; (try dsimp only at hSw); go_simp; (try simp only [HDEC.out]); (try simp only [HDEC2.out]); try with_reducible rfl
      try simp only [Act.put, List.setIfInBounds_toArray, List.set_cons_zero, List.set_cons_succ]
      refine take_q (i := 20) (v := ?_) rfl (by kernel_rfl) (by kernel_rfl) (by kernel_rfl) (fun _ _ _ h => h) (Or.inl ⟨by rfl, ?_⟩) (by assumption) ?_
      rotate_left
      · intro w hSw; (try dsimp only at hSw); go_simp; (try simp only [HDEC.out]); (try simp only [HDEC2.out]); try with_reducible rfl
      try simp only [Act.put, List.setIfInBounds_toArray, List.set_cons_zero, List.set_cons_succ]
      refine take_q (i := 23) (v := ?_) rfl (by kernel_rfl) (by kernel_rfl) (by kernel_rfl) (fun _ _ _ h => h) (Or.inl ⟨by rfl, ?_⟩) (by assumption) ?_
      rotate_left
      · intro w hSw; (try dsimp only at hSw); go_simp; (try simp only [HDEC.out]); (try simp only [HDEC2.out]); try with_reducible rfl
      try simp only [Act.put, List.setIfInBounds_toArray, List.set_cons_zero, List.set_cons_succ]
      refine wpAnyH_ready (rs := [21]) (by kernel_rfl) (by simp) ?_
      refine cons_q rfl (fun K hK => ?_) AllReadyH.nil
      go_simp
      with_reducible refine (HF.out _).mono ?_; rintro e w3 ⟨rfl, hb3⟩
      refine hK.out _ _ ?_ (fun hHeld => ?_)
      · exact ⟨blk_pfx bk_, bl_⟩
      clear hK K
      try simp only [Act.put, List.setIfInBounds_toArray, List.set_cons_zero, List.set_cons_succ]
      refine wpAnyH_ready (rs := [22]) (by kernel_rfl) (by simp) ?_
      refine cons_q rfl (fun K hK => ?_) AllReadyH.nil
      go_simp
      with_reducible refine (HN.out _).mono ?_; rintro e w4 ⟨rfl, hb4⟩
      refine hK.out _ _ ?_ (fun hHeld => ?_)
      · exact ⟨blk_pfx bk_, bl_⟩
      clear hK K
      try simp only [Act.put, List.setIfInBounds_toArray, List.set_cons_zero, List.set_cons_succ]
      refine take_q (i := 24) (v := ?_) rfl (by kernel_rfl) (by kernel_rfl) (by kernel_rfl) (fun _ _ _ h => h) (Or.inl ⟨by rfl, ?_⟩) (by assumption) ?_
      rotate_left
      · intro w hSw; (try dsimp only at hSw); go_simp; (try simp only [HDEC.out]); (try simp only [HDEC2.out]); try with_reducible rfl
      try simp only [Act.put, List.setIfInBounds_toArray, List.set_cons_zero, List.set_cons_succ]
      refine take_q (i := 25) (v := ?_) rfl (by kernel_rfl) (by kernel_rfl) (by kernel_rfl) (fun _ _ _ h => h) (Or.inl ⟨by rfl, ?_⟩) (by assumption) ?_
      rotate_left
      · intro w hSw; (try dsimp only at hSw); go_simp; (try simp only [HDEC.out]); (try simp only [HDEC2.out]); try with_reducible rfl
      try simp only [Act.put, List.setIfInBounds_toArray, List.set_cons_zero, List.set_cons_succ]
      refine take_q (i := 26) (v := ?_) rfl (by kernel_rfl) (by kernel_rfl) (by kernel_rfl) (fun _ _ _ h => h) (Or.inl ⟨by rfl, ?_⟩) (by assumption) ?_
      rotate_left
      · intro w hSw; (try dsimp only at hSw); go_simp; (try simp only [HDEC.out]); (try simp only [HDEC2.out]); try with_reducible rfl
      try simp only [Act.put, List.setIfInBounds_toArray, List.set_cons_zero, List.set_cons_succ]
      refine wpAnyH_done (by kernel_rfl) ?_ _
      go_wp2_with fail
      go_ret
      exact ⟨rfl, hHeld.2⟩
end Go.Proofs.YtpfilldnfpcpkaaGreatDoor

namespace Go.Proofs.YtpfilldnfpcpkaaGreatDoor
open Go.RowKit

def okW (h l : Int) : Bool := decide (0 ≤ h) && (decide (h < 18446744073709551616) && (decide (0 ≤ l) && decide (l < 18446744073709551616)))
theorem okW_iff {h l : Int} : okW h l = true ↔ 0 ≤ h ∧ h < 18446744073709551616 ∧ 0 ≤ l ∧ l < 18446744073709551616 := by
  unfold okW; simp
theorem okW_lt {h l : Int} (k : okW h l = true) : num h l < 340282366920938463463374607431768211456 := by
  have := okW_iff.1 k; exact num_lt this.2.1 this.2.2.2
theorem okW_num {h l : Int} (k : okW h l = true) : Value.agg #[.int .u64 h, .int .u64 l] = numV (num h l) := by
  have := okW_iff.1 k; rw [numV, hi_num this.1 this.2.1 this.2.2.1 this.2.2.2, lo_num this.2.2.1 this.2.2.2]
theorem okW_adr {v : Bool} {h l : Int} (k : okW h l = true) : Value.agg #[.bool v, .int .u64 h, .int .u64 l] = AddrV v (num h l) := by
  have := okW_iff.1 k; rw [AddrV, hi_num this.1 this.2.1 this.2.2.1 this.2.2.2, lo_num this.2.2.1 this.2.2.2]
theorem okW_pfx {v : Bool} {h l b : Int} (k : okW h l = true) : Value.agg #[.bool v, .int .u64 h, .int .u64 l, .int .i64 b] = PfxV v (num h l) b := by
  have := okW_iff.1 k; rw [PfxV, PfxC, hi_num this.1 this.2.1 this.2.2.1 this.2.2.2, lo_num this.2.2.1 this.2.2.2]
theorem okW_hl (n : Nat) : okW (hi n) (lo n) = true := okW_iff.2 ⟨hi_nn n, hi_lt n, lo_nn n, lo_lt n⟩
theorem some_if {α : Type} {b : Bool} {x y : α} (h : (if b = true then some x else none) = some y) : b = true ∧ x = y := by
  cases b
  · cases h
  · injection h with h; exact ⟨rfl, h⟩
theorem glob_keep {w w' : World} (h : Glob w) (hb : Below w.heap.size w w') : Glob w' := h.after hb
/-- an address so far behind -/
def plusP (v : Bool) (a n : Nat) : Bool × Nat × Int := if rightB v a = true then (if (addF a n && rightB v (addN a n)) = true then (v, addN a n, 0) else (false, 0, 11)) else (false, 0, 1)
def parseP : Option (Bool × Nat) → Bool × Nat × Int
  | some (v, n) => (v, n, 0)
  | none => (false, 0, 4)
theorem parseV_P (x : Option (Bool × Nat)) : parseV x = .tuple #[.agg #[.bool (parseP x).1, .int .u64 (hi (parseP x).2.1), .int .u64 (lo (parseP x).2.1)], .int .i64 (parseP x).2.2] := by
  rcases x with _ | ⟨v, n⟩ <;> rfl

def num_Shl.f (a0_0 a0_1 : Int) (a1 : Int) : Option (Int × Int) := if (okW a0_0 a0_1 && (decide (-9223372036854775808 ≤ a1))) = true then some (hi (shlN (num a0_0 a0_1) a1), lo (shlN (num a0_0 a0_1) a1)) else none
theorem num_Shl.calls (a0_0 a0_1 : Int) (a1 : Int) (r1 : Int) (r2 : Int) (w : World) (h : num_Shl.f a0_0 a0_1 a1 = some (r1, r2)) :
    Calls Tryz.prog 167 #[.agg #[.int .u64 a0_0, .int .u64 a0_1], .int .i64 a1] w fun e w' => e = .returned (.agg #[.int .u64 r1, .int .u64 r2]) ∧ Below w.heap.size w w' := by
  unfold num_Shl.f at h
  obtain ⟨hg, h⟩ := some_if h
  simp only [Bool.and_eq_true] at hg
  obtain ⟨g0, hk0⟩ := hg
  have h0 := okW_iff.1 g0
  have hk := of_decide_eq_true hk0
  obtain ⟨rfl, rfl⟩ := Prod.mk.inj h
  exact shl_c a0_0 a0_1 a1 w h0.1 h0.2.1 h0.2.2.1 h0.2.2.2 hk
def num_Shr.f (a0_0 a0_1 : Int) (a1 : Int) : Option (Int × Int) := if (okW a0_0 a0_1 && (decide (-9223372036854775808 ≤ a1))) = true then some (hi (shrN (num a0_0 a0_1) a1), lo (shrN (num a0_0 a0_1) a1)) else none
theorem num_Shr.calls (a0_0 a0_1 : Int) (a1 : Int) (r1 : Int) (r2 : Int) (w : World) (h : num_Shr.f a0_0 a0_1 a1 = some (r1, r2)) :
    Calls Tryz.prog 159 #[.agg #[.int .u64 a0_0, .int .u64 a0_1], .int .i64 a1] w fun e w' => e = .returned (.agg #[.int .u64 r1, .int .u64 r2]) ∧ Below w.heap.size w w' := by
  unfold num_Shr.f at h
  obtain ⟨hg, h⟩ := some_if h
  simp only [Bool.and_eq_true] at hg
  obtain ⟨g0, hk0⟩ := hg
  have h0 := okW_iff.1 g0
  have hk := of_decide_eq_true hk0
  obtain ⟨rfl, rfl⟩ := Prod.mk.inj h
  exact shr_c a0_0 a0_1 a1 w h0.1 h0.2.1 h0.2.2.1 h0.2.2.2 hk
def num_Ones.f (a0 : Int) : Option (Int × Int) := some (hi (onesN a0), lo (onesN a0))
theorem num_Ones.calls (a0 : Int) (r1 : Int) (r2 : Int) (w : World) (h : num_Ones.f a0 = some (r1, r2)) :
    Calls Tryz.prog 136 #[.int .i64 a0] w fun e w' => e = .returned (.agg #[.int .u64 r1, .int .u64 r2]) ∧ Below w.heap.size w w' := by
  unfold num_Ones.f at h
  injection h with h
  obtain ⟨rfl, rfl⟩ := Prod.mk.inj h
  exact ones_c a0 w
def num_Len.f (a0_0 a0_1 : Int) : Option (Int) := if (okW a0_0 a0_1) = true then some ((lenN (num a0_0 a0_1) : Nat) : Int) else none
theorem num_Len.calls (a0_0 a0_1 : Int) (r : Int) (w : World) (h : num_Len.f a0_0 a0_1 = some r) :
    Calls Tryz.prog 134 #[.agg #[.int .u64 a0_0, .int .u64 a0_1]] w fun e w' => e = .returned (.int .i64 r) ∧ Below w.heap.size w w' := by
  unfold num_Len.f at h
  obtain ⟨hg, h⟩ := some_if h
  have g0 := hg
  have h0 := okW_iff.1 g0
  subst h
  exact len_c a0_0 a0_1 w h0.1 h0.2.1 h0.2.2.1 h0.2.2.2
def num_Cmp.f (a0_0 a0_1 : Int) (a1_0 a1_1 : Int) : Option (Int) := if (okW a0_0 a0_1 && (okW a1_0 a1_1)) = true then some (cmpN (num a0_0 a0_1) (num a1_0 a1_1)) else none
theorem num_Cmp.calls (a0_0 a0_1 : Int) (a1_0 a1_1 : Int) (r : Int) (w : World) (h : num_Cmp.f a0_0 a0_1 a1_0 a1_1 = some r) :
    Calls Tryz.prog 88 #[.agg #[.int .u64 a0_0, .int .u64 a0_1], .agg #[.int .u64 a1_0, .int .u64 a1_1]] w fun e w' => e = .returned (.int .i64 r) ∧ Below w.heap.size w w' := by
  unfold num_Cmp.f at h
  obtain ⟨hg, h⟩ := some_if h
  simp only [Bool.and_eq_true] at hg
  obtain ⟨g0, g1⟩ := hg
  have h0 := okW_iff.1 g0
  have h1 := okW_iff.1 g1
  subst h
  exact cmp_c a0_0 a0_1 a1_0 a1_1 w h0.1 h0.2.1 h0.2.2.1 h0.2.2.2 h1.1 h1.2.1 h1.2.2.1 h1.2.2.2
def num_And.f (a0_0 a0_1 : Int) (a1_0 a1_1 : Int) : Option (Int × Int) := if (okW a0_0 a0_1 && (okW a1_0 a1_1)) = true then some (hi (num a0_0 a0_1 &&& num a1_0 a1_1), lo (num a0_0 a0_1 &&& num a1_0 a1_1)) else none
theorem num_And.calls (a0_0 a0_1 : Int) (a1_0 a1_1 : Int) (r1 : Int) (r2 : Int) (w : World) (h : num_And.f a0_0 a0_1 a1_0 a1_1 = some (r1, r2)) :
    Calls Tryz.prog 133 #[.agg #[.int .u64 a0_0, .int .u64 a0_1], .agg #[.int .u64 a1_0, .int .u64 a1_1]] w fun e w' => e = .returned (.agg #[.int .u64 r1, .int .u64 r2]) ∧ Below w.heap.size w w' := by
  unfold num_And.f at h
  obtain ⟨hg, h⟩ := some_if h
  simp only [Bool.and_eq_true] at hg
  obtain ⟨g0, g1⟩ := hg
  have h0 := okW_iff.1 g0
  have h1 := okW_iff.1 g1
  obtain ⟨rfl, rfl⟩ := Prod.mk.inj h
  rw [okW_num g0]
  rw [okW_num g1]
  exact andn_c (num a0_0 a0_1) (num a1_0 a1_1) w
def num_Or.f (a0_0 a0_1 : Int) (a1_0 a1_1 : Int) : Option (Int × Int) := if (okW a0_0 a0_1 && (okW a1_0 a1_1)) = true then some (hi (num a0_0 a0_1 ||| num a1_0 a1_1), lo (num a0_0 a0_1 ||| num a1_0 a1_1)) else none
theorem num_Or.calls (a0_0 a0_1 : Int) (a1_0 a1_1 : Int) (r1 : Int) (r2 : Int) (w : World) (h : num_Or.f a0_0 a0_1 a1_0 a1_1 = some (r1, r2)) :
    Calls Tryz.prog 93 #[.agg #[.int .u64 a0_0, .int .u64 a0_1], .agg #[.int .u64 a1_0, .int .u64 a1_1]] w fun e w' => e = .returned (.agg #[.int .u64 r1, .int .u64 r2]) ∧ Below w.heap.size w w' := by
  unfold num_Or.f at h
  obtain ⟨hg, h⟩ := some_if h
  simp only [Bool.and_eq_true] at hg
  obtain ⟨g0, g1⟩ := hg
  have h0 := okW_iff.1 g0
  have h1 := okW_iff.1 g1
  obtain ⟨rfl, rfl⟩ := Prod.mk.inj h
  rw [okW_num g0]
  rw [okW_num g1]
  exact orn_c (num a0_0 a0_1) (num a1_0 a1_1) w (okW_lt g0) (okW_lt g1)
def num_Not.f (a0_0 a0_1 : Int) : Option (Int × Int) := if (okW a0_0 a0_1) = true then some (hi (notN (num a0_0 a0_1)), lo (notN (num a0_0 a0_1))) else none
theorem num_Not.calls (a0_0 a0_1 : Int) (r1 : Int) (r2 : Int) (w : World) (h : num_Not.f a0_0 a0_1 = some (r1, r2)) :
    Calls Tryz.prog 135 #[.agg #[.int .u64 a0_0, .int .u64 a0_1]] w fun e w' => e = .returned (.agg #[.int .u64 r1, .int .u64 r2]) ∧ Below w.heap.size w w' := by
  unfold num_Not.f at h
  obtain ⟨hg, h⟩ := some_if h
  have g0 := hg
  have h0 := okW_iff.1 g0
  obtain ⟨rfl, rfl⟩ := Prod.mk.inj h
  exact not_c a0_0 a0_1 w h0.1 h0.2.1 h0.2.2.1 h0.2.2.2
def addr_Width.f (a0_0 : Bool) (a0_1 a0_2 : Int) : Option (Int) := if (okW a0_1 a0_2) = true then some ((widthN a0_0 : Nat) : Int) else none
theorem addr_Width.calls (a0_0 : Bool) (a0_1 a0_2 : Int) (r : Int) (w : World) (h : addr_Width.f a0_0 a0_1 a0_2 = some r) :
    Calls Tryz.prog 132 #[.agg #[.bool a0_0, .int .u64 a0_1, .int .u64 a0_2]] w fun e w' => e = .returned (.int .i64 r) ∧ Below w.heap.size w w' := by
  unfold addr_Width.f at h
  obtain ⟨hg, h⟩ := some_if h
  have g0 := hg
  have h0 := okW_iff.1 g0
  subst h
  rw [okW_adr g0]
  exact width_c a0_0 (num a0_1 a0_2) w
def addr_Right.f (a0_0 : Bool) (a0_1 a0_2 : Int) : Option (Bool) := if (okW a0_1 a0_2) = true then some (rightB a0_0 (num a0_1 a0_2)) else none
theorem addr_Right.calls (a0_0 : Bool) (a0_1 a0_2 : Int) (r : Bool) (w : World) (h : addr_Right.f a0_0 a0_1 a0_2 = some r) :
    Calls Tryz.prog 91 #[.agg #[.bool a0_0, .int .u64 a0_1, .int .u64 a0_2]] w fun e w' => e = .returned (.bool r) ∧ Below w.heap.size w w' := by
  unfold addr_Right.f at h
  obtain ⟨hg, h⟩ := some_if h
  have g0 := hg
  have h0 := okW_iff.1 g0
  subst h
  rw [okW_adr g0]
  exact right_c a0_0 (num a0_1 a0_2) w (okW_lt g0)
def platbookref02_Width.f (a0_0 : Bool) (a0_1 a0_2 : Int) : Option (Int) := if (okW a0_1 a0_2) = true then some ((widthN a0_0 : Nat) : Int) else none
theorem platbookref02_Width.calls (a0_0 : Bool) (a0_1 a0_2 : Int) (r : Int) (w : World) (h : platbookref02_Width.f a0_0 a0_1 a0_2 = some r) :
    Calls Tryz.prog 67 #[.agg #[.bool a0_0, .int .u64 a0_1, .int .u64 a0_2]] w fun e w' => e = .returned (.int .i64 r) ∧ Below w.heap.size w w' := by
  unfold platbookref02_Width.f at h
  obtain ⟨hg, h⟩ := some_if h
  have g0 := hg
  have h0 := okW_iff.1 g0
  subst h
  rw [okW_adr g0]
  exact rwidth_c a0_0 (num a0_1 a0_2) w
def platbookref02_Right.f (a0_0 : Bool) (a0_1 a0_2 : Int) : Option (Bool) := if (okW a0_1 a0_2) = true then some (rightB a0_0 (num a0_1 a0_2)) else none
theorem platbookref02_Right.calls (a0_0 : Bool) (a0_1 a0_2 : Int) (r : Bool) (w : World) (h : platbookref02_Right.f a0_0 a0_1 a0_2 = some r) :
    Calls Tryz.prog 105 #[.agg #[.bool a0_0, .int .u64 a0_1, .int .u64 a0_2]] w fun e w' => e = .returned (.bool r) ∧ Below w.heap.size w w' := by
  unfold platbookref02_Right.f at h
  obtain ⟨hg, h⟩ := some_if h
  have g0 := hg
  have h0 := okW_iff.1 g0
  subst h
  rw [okW_adr g0]
  exact rright_c a0_0 (num a0_1 a0_2) w (okW_lt g0)
def addr_Cmp.f (a0_0 : Bool) (a0_1 a0_2 : Int) (a1_0 : Bool) (a1_1 a1_2 : Int) : Option (Int) := if (okW a0_1 a0_2 && (okW a1_1 a1_2)) = true then some (cmpA a0_0 (num a0_1 a0_2) a1_0 (num a1_1 a1_2)) else none
theorem addr_Cmp.calls (a0_0 : Bool) (a0_1 a0_2 : Int) (a1_0 : Bool) (a1_1 a1_2 : Int) (r : Int) (w : World) (h : addr_Cmp.f a0_0 a0_1 a0_2 a1_0 a1_1 a1_2 = some r) :
    Calls Tryz.prog 30 #[.agg #[.bool a0_0, .int .u64 a0_1, .int .u64 a0_2], .agg #[.bool a1_0, .int .u64 a1_1, .int .u64 a1_2]] w fun e w' => e = .returned (.int .i64 r) ∧ Below w.heap.size w w' := by
  unfold addr_Cmp.f at h
  obtain ⟨hg, h⟩ := some_if h
  simp only [Bool.and_eq_true] at hg
  obtain ⟨g0, g1⟩ := hg
  have h0 := okW_iff.1 g0
  have h1 := okW_iff.1 g1
  subst h
  rw [okW_adr g0]
  rw [okW_adr g1]
  exact acmp_c a0_0 (num a0_1 a0_2) a1_0 (num a1_1 a1_2) w (okW_lt g0) (okW_lt g1)
def addr_Plus.f (a0_0 : Bool) (a0_1 a0_2 : Int) (a1_0 a1_1 : Int) : Option (Bool × Int × Int × Int) := if (okW a0_1 a0_2 && (okW a1_0 a1_1)) = true then some ((plusP a0_0 (num a0_1 a0_2) (num a1_0 a1_1)).1, hi (plusP a0_0 (num a0_1 a0_2) (num a1_0 a1_1)).2.1, lo (plusP a0_0 (num a0_1 a0_2) (num a1_0 a1_1)).2.1, (plusP a0_0 (num a0_1 a0_2) (num a1_0 a1_1)).2.2) else none
def addr_Parse.f (a0 : ByteArray) : Option (Bool × Int × Int × Int) := if (decide (a0.size ≤ 1000000)) = true then some ((parseP (parseA (bts a0))).1, hi (parseP (parseA (bts a0))).2.1, lo (parseP (parseA (bts a0))).2.1, (parseP (parseA (bts a0))).2.2) else none
theorem addr_Parse.calls (a0 : ByteArray) (r1 : Bool) (r2 : Int) (r3 : Int) (r4 : Int) (w : World) (hG : Glob w) (h : addr_Parse.f a0 = some (r1, r2, r3, r4)) :
    Calls Tryz.prog 112 #[.string a0] w fun e w' => e = .returned (.tuple #[.agg #[.bool r1, .int .u64 r2, .int .u64 r3], .int .i64 r4]) ∧ Below w.heap.size w w' := by
  unfold addr_Parse.f at h
  obtain ⟨hg, h⟩ := some_if h
  have g0 := hg
  simp only [Prod.mk.injEq] at h
  obtain ⟨rfl, rfl, rfl, rfl⟩ := h
  exact (parseV_P (parseA (bts a0))) ▸ parse_c a0 w (of_decide_eq_true g0) hG
def addr_Print.f (a0_0 : Bool) (a0_1 a0_2 : Int) : Option (ByteArray) := if (okW a0_1 a0_2) = true then some (⟨(printA a0_0 (num a0_1 a0_2)).toArray⟩ : ByteArray) else none
theorem addr_Print.calls (a0_0 : Bool) (a0_1 a0_2 : Int) (r : ByteArray) (w : World) (hG : Glob w) (h : addr_Print.f a0_0 a0_1 a0_2 = some r) :
    Calls Tryz.prog 66 #[.agg #[.bool a0_0, .int .u64 a0_1, .int .u64 a0_2]] w fun e w' => e = .returned (.string r) ∧ Below w.heap.size w w' := by
  unfold addr_Print.f at h
  obtain ⟨hg, h⟩ := some_if h
  have g0 := hg
  have h0 := okW_iff.1 g0
  subst h
  rw [okW_adr g0]
  exact print_c a0_0 (num a0_1 a0_2) w (okW_lt g0) hG
def prefix_free.f (a0_0 : Bool) (a0_1 a0_2 a0_3 : Int) : Option (Int × Int) := if (okW a0_1 a0_2 && (decide (0 ≤ a0_3) && (decide (a0_3 ≤ ((widthN a0_0 : Nat) : Int))))) = true then some (hi (2 ^ fr a0_0 a0_3 - 1), lo (2 ^ fr a0_0 a0_3 - 1)) else none
theorem prefix_free.calls (a0_0 : Bool) (a0_1 a0_2 a0_3 : Int) (r1 : Int) (r2 : Int) (w : World) (h : prefix_free.f a0_0 a0_1 a0_2 a0_3 = some (r1, r2)) :
    Calls Tryz.prog 94 #[.agg #[.bool a0_0, .int .u64 a0_1, .int .u64 a0_2, .int .i64 a0_3]] w fun e w' => e = .returned (.agg #[.int .u64 r1, .int .u64 r2]) ∧ Below w.heap.size w w' := by
  unfold prefix_free.f at h
  obtain ⟨hg, h⟩ := some_if h
  simp only [Bool.and_eq_true] at hg
  obtain ⟨g0, hk0, hk20⟩ := hg
  have h0 := okW_iff.1 g0
  have hk := of_decide_eq_true hk0
  have hk2 := of_decide_eq_true hk20
  obtain ⟨rfl, rfl⟩ := Prod.mk.inj h
  rw [okW_pfx g0]
  exact free_c a0_0 (num a0_1 a0_2) a0_3 w hk hk2
def prefix_Right.f (a0_0 : Bool) (a0_1 a0_2 a0_3 : Int) : Option (Bool) := if (okW a0_1 a0_2) = true then some (rightP a0_0 (num a0_1 a0_2) a0_3) else none
theorem prefix_Right.calls (a0_0 : Bool) (a0_1 a0_2 a0_3 : Int) (r : Bool) (w : World) (h : prefix_Right.f a0_0 a0_1 a0_2 a0_3 = some r) :
    Calls Tryz.prog 90 #[.agg #[.bool a0_0, .int .u64 a0_1, .int .u64 a0_2, .int .i64 a0_3]] w fun e w' => e = .returned (.bool r) ∧ Below w.heap.size w w' := by
  unfold prefix_Right.f at h
  obtain ⟨hg, h⟩ := some_if h
  have g0 := hg
  have h0 := okW_iff.1 g0
  subst h
  rw [okW_pfx g0]
  exact rightP_c a0_0 (num a0_1 a0_2) a0_3 w (okW_lt g0)
end Go.Proofs.YtpfilldnfpcpkaaGreatDoor

namespace Go.Proofs.YtpfilldnfpcpkaaGreatDoor
open Go.RowKit

theorem below_drewN' (w : World) (k : Nat) : Below w.heap.size w (w.drewN k) := bl_drewN (Below.refl _ _) k
theorem atoi_no (s : ByteArray) (w : World) (hs : s.size ≤ 1000000) (hG : Glob w) (h : ∀ k, Lib.atoiAll (bts s) ≠ .ok k) :
    Calls Tryz.prog 113 #[.string s] w fun e w' => (∃ (n : Int) (N : Nat), e = .returned (.tuple #[.int .i64 n, .iface 208 (.pointer (some ⟨N, 0, none⟩))])) ∧ Below w.heap.size w w' := by
  have hx : Lib.atoiAll (bts s) = Lib.atoiAll [] ∨ Lib.atoiAll (bts s) = .range := by
    rcases he : Lib.atoiAll (bts s) with u | _ | _
    · exact absurd he (h u)
    · exact .inl rfl
    · exact .inr rfl
  rcases hx with hx | hx
  · obtain ⟨tp, p, hv⟩ := hG.syn
    refine (Tryz.strconv_Atoi_syntax s (by omega) hx (.iface tp p) w (World.var?_cell (g := 2) (by kernel_rfl) hv 0) (.inr ⟨tp, p, rfl⟩)).mono ?_
    rintro e w' ⟨N, rfl, _, _, hb⟩
    exact ⟨⟨_, N, rfl⟩, hb⟩
  · obtain ⟨tp, p, hv⟩ := hG.rng
    refine (Tryz.strconv_Atoi_range s (by omega) hx (.iface tp p) w (World.var?_cell (g := 3) (by kernel_rfl) hv 0) (.inr ⟨tp, p, rfl⟩)).mono ?_
    rintro e w' ⟨N, rfl, _, _, hb⟩
    exact ⟨⟨_, N, rfl⟩, hb⟩
theorem atoi_yes (s : ByteArray) (k : Int) (w : World) (hs : s.size ≤ 1000000) (h : Lib.atoiAll (bts s) = .ok k) :
    Calls Tryz.prog 113 #[.string s] w fun e w' => e = .returned (.tuple #[.int .i64 k, .nilIface]) ∧ Below w.heap.size w w' := by
  refine (Tryz.strconv_Atoi_ok s (by omega) k h w).mono ?_
  rintro e w' ⟨rfl, rfl | ⟨t, rfl⟩⟩
  · exact ⟨rfl, Below.refl _ _⟩
  · exact ⟨rfl, Lib.bytesWorld_below _ _ _⟩
theorem itoaI_c (n : Int) (w : World) (h0 : -9223372036854775808 ≤ n) (h1 : n ≤ 9223372036854775807) (hG : Glob w) :
    Calls Tryz.prog 114 #[.int .i64 n] w fun e w' => e = .returned (.string ⟨(Lib.itoa n).toArray⟩) ∧ Below w.heap.size w w' := by
  refine (Tryz.strconv_Itoa n h0 h1 w hG.tab).mono ?_
  rintro e w' ⟨rfl, k, os, rfl⟩
  exact ⟨rfl, Lib.below_grow _ w (Nat.le_refl _) k os⟩
def atoiP (l : List UInt8) : Option Int := match Lib.atoiAll l with
  | .ok v => some v
  | _ => none
theorem atoiP_some {l : List UInt8} {k : Int} (h : atoiP l = some k) : Lib.atoiAll l = .ok k := by
  unfold atoiP at h
  split at h
  · injection h with h; subst h; assumption
  · cases h
theorem atoiP_none {l : List UInt8} (h : atoiP l = none) : ∀ k, Lib.atoiAll l ≠ .ok k := by
  intro k hk
  unfold atoiP at h
  rw [hk] at h; cases h
/-- the prefix of a text -/
def parsePfx (l : List UInt8) : Option (Bool × Nat × Int) :=
  match parseA (Lib.cut l [47]).1, atoiP (Lib.cut l [47]).2.1 with
  | some (v, n), some k => if (Lib.itoa k == (Lib.cut l [47]).2.1 && rightP v n k) = true then some (v, n, k) else none
  | _, _ => none
def pfxP : Option (Bool × Nat × Int) → Bool × Nat × Int × Int
  | some (v, n, k) => (v, n, k, 0)
  | none => (false, 0, 0, 4)
def pfxR (x : Option (Bool × Nat × Int)) : Value := .tuple #[PfxV (pfxP x).1 (pfxP x).2.1 (pfxP x).2.2.1, .int .i64 (pfxP x).2.2.2]
theorem pfxR_none : pfxR none = .tuple #[.agg #[.bool false, .int .u64 0, .int .u64 0, .int .i64 0], .int .i64 4] := rfl
theorem pfxR_some (v : Bool) (n : Nat) (k : Int) : pfxR (some (v, n, k)) = .tuple #[.agg #[.bool v, .int .u64 (hi n), .int .u64 (lo n), .int .i64 k], .int .i64 0] := rfl
theorem cut_len (l : List UInt8) : (Lib.cut l [47]).1.length ≤ l.length ∧ (Lib.cut l [47]).2.1.length ≤ l.length := by
  unfold Lib.cut
  split
  · exact ⟨by simp; omega, by simp⟩
  · simp
theorem sideP_lt (last : Bool) : ∀ {ps : List (List UInt8)} {G : List Nat}, sideP last ps = some G → ∀ g ∈ G, g < 65536
  | [], G, h, g, hg => by simp only [sideP, Option.some.injEq] at h; subst h; cases hg
  | w :: q, G, h, g, hg => by
    rw [sideP] at h
    split at h
    · rw [Option.map_eq_some_iff] at h
      obtain ⟨t, ht, rfl⟩ := h
      obtain ⟨h1, h2⟩ := four_lt ht
      match t, h1, h2 with
      | [a, b, c, d], _, h2 =>
        have ha := h2 a (by simp)
        have hb := h2 b (by simp)
        have hc := h2 c (by simp)
        have hd := h2 d (by simp)
        simp only [grp, List.mem_cons, List.not_mem_nil, or_false] at hg
        rcases hg with rfl | rfl <;> omega
    · cases hx : hex16 w with
      | none => rw [hx] at h; cases h
      | some x =>
        rw [hx] at h
        simp only [Option.map_eq_some_iff] at h
        obtain ⟨t, ht, rfl⟩ := h
        rcases List.mem_cons.1 hg with rfl | hg
        · exact hex16_lt hx
        · exact sideP_lt last ht g hg
theorem side_lt {last : Bool} {s : List UInt8} {G : List Nat} (h : side last s = some G) : ∀ g ∈ G, g < 65536 := by
  unfold side at h
  split at h
  · injection h with h; subst h; intro g hg; cases hg
  · exact sideP_lt last h
theorem parseA_lt {l : List UInt8} {v : Bool} {n : Nat} (h : parseA l = some (v, n)) : n < 340282366920938463463374607431768211456 := by
  unfold parseA at h
  split at h
  · split at h
    · split at h
      · rename_i l r hl hr hc
        injection h with h
        injection h with _ h
        subst h
        have h1 := side_lt hl
        have h2 := side_lt hr
        have hlen : (l ++ nulls (8 - l.length - r.length) ++ r).length = 8 := by
          simp only [nulls, List.length_append, List.length_replicate]; omega
        have := valG_lt (l ++ nulls (8 - l.length - r.length) ++ r) (by
          intro g hg
          simp only [nulls, List.mem_append, List.mem_replicate] at hg
          rcases hg with (hg | ⟨_, rfl⟩) | hg
          · exact h1 g hg
          · decide
          · exact h2 g hg)
        rw [hlen] at this
        exact this
      · cases h
    · cases h
  · rw [Option.map_eq_some_iff] at h
    obtain ⟨t, ht, h⟩ := h
    injection h with _ h
    subst h
    obtain ⟨h1, h2⟩ := four_lt ht
    have := valB_lt t (fun k hk => by have := h2 k hk; omega)
    rw [h1] at this
    exact Nat.lt_of_lt_of_le this (by decide)
set_option maxRecDepth 100000 in
set_option maxHeartbeats 3200000 in
theorem ppfx_c (s : ByteArray) (w : World) (hs : s.size ≤ 1000000) (hG : Glob w) :
    Calls Tryz.prog 65 #[.string s] w fun e w' => e = .returned (pfxR (parsePfx (bts s))) ∧ Below w.heap.size w w' := by
  have HC := Lib.hid (fun w (hG : Glob w) => hG.max.elim fun m hm => Tryz.strings_Cut s ⟨#[47]⟩ m w (by omega) hm)
  have hsz := cut_len (bts s)
  have hbl : (bts s).length = s.size := by simp [bts]
  have hP : parsePfx (bts s) = (match parseA (Lib.cut (bts s) [47]).1, atoiP (Lib.cut (bts s) [47]).2.1 with
  | some (v, n), some k => if (Lib.itoa k == (Lib.cut (bts s) [47]).2.1 && rightP v n k) = true then some (v, n, k) else none
  | _, _ => none) := rfl
  rw [hP]
  clear hP
  have e1 : Lib.cut s.data.toList (ByteArray.mk #[47]).data.toList = Lib.cut (bts s) [47] := rfl
  rw [e1] at HC
  clear e1
  generalize (Lib.cut (bts s) [47]).1 = p at *
  generalize (Lib.cut (bts s) [47]).2.1 = q at *
  generalize (Lib.cut (bts s) [47]).2.2 = cut at *
  have HA := Lib.hid (fun w hG => parse_c ⟨p.toArray⟩ w (by show p.toArray.size ≤ _; rw [List.size_toArray]; omega) hG)
  rw [bts_mk] at HA
  have hq : (ByteArray.mk q.toArray).size ≤ 1000000 := by show q.toArray.size ≤ _; rw [List.size_toArray]; omega
  clear hsz hbl
  cases hpa : parseA p with
  | none =>
    rw [hpa] at HA
    rw [show parseV none = .tuple #[.agg #[.bool false, .int .u64 0, .int .u64 0], .int .i64 4] from rfl] at HA
    have HE := Lib.hid pfxR_none
    clear hpa
    have HT := Lib.hid (show ∀ w, Glob w → Calls Tryz.prog 113 #[.string ⟨q.toArray⟩] w fun e w' => (∃ (n : Int) (b : Value), (b = .nilIface ∨ ∃ N : Nat, b = .iface 208 (.pointer (some ⟨N, 0, none⟩))) ∧ e = .returned (.tuple #[.int .i64 n, b])) ∧ Below w.heap.size w w' by
      intro w hG
      cases ha : atoiP q with
      | none =>
        refine (atoi_no ⟨q.toArray⟩ w hq hG (by rw [bts_mk]; exact atoiP_none ha)).mono ?_
        rintro e w' ⟨⟨n, N, rfl⟩, hb⟩
        exact ⟨⟨n, _, .inr ⟨N, rfl⟩, rfl⟩, hb⟩
      | some k =>
        refine (atoi_yes ⟨q.toArray⟩ k w hq (by rw [bts_mk]; exact atoiP_some ha)).mono ?_
        rintro e w' ⟨rfl, hb⟩
        exact ⟨⟨k, _, .inl rfl, rfl⟩, hb⟩)
    clear hq
    go_enter Tryz.func65, Tryz.ntmps65
    go_wp2_with fail
    have hX : Blk (w.alloc (Obj.cells #[.bool false, .int .u64 0, .int .u64 0, .int .i64 0] 28)) (w.heap.size) 28 (PfxC false 0 0) := (Blk.new' _ _ _ _ (by simp) : Blk (w.alloc (Obj.cells #[.bool false, .int .u64 0, .int .u64 0, .int .i64 0] 28)) (w.heap.size) 28 (PfxC false 0 0))
    have hbel : Below w.heap.size w (w.alloc (Obj.cells #[.bool false, .int .u64 0, .int .u64 0, .int .i64 0] 28)) := bl_
    replace hG := hG.after hbel
    have hsz : (w.alloc (Obj.cells #[.bool false, .int .u64 0, .int .u64 0, .int .i64 0] 28)).heap.size = w.heap.size + 1 := by simp
    generalize w.alloc (Obj.cells #[.bool false, .int .u64 0, .int .u64 0, .int .i64 0] 28) = w1 at *
    refine (HC.out _ hG).mono ?_
    rintro e w2 ⟨rfl, kd, rfl⟩
    have hb := below_drewN' w1 kd
    replace hX := hX.after hb
    replace hG := hG.after hb
    replace hbel := bl_trans hbel hb
    clear hb HC hsz
    generalize w1.drewN kd = w2 at *
    go_wp2_with fail
    refine (HA.out _ hG).mono ?_
    rintro e w3 ⟨rfl, hb⟩
    replace hX := hX.after hb
    replace hG := hG.after hb
    replace hbel := bl_trans hbel hb
    clear hb HA
    go_wp2_with fail
    have hA : Blk (w3.alloc (Obj.cells #[Value.bool false, Value.int IntKind.u64 0, Value.int IntKind.u64 0] 26)) w3.heap.size 26 (AddrC false 0) := Blk.new _ _ _
    have hX4 := hX.alloc (Obj.cells #[Value.bool false, Value.int IntKind.u64 0, Value.int IntKind.u64 0] 26)
    have hG4 : Glob (w3.alloc (Obj.cells #[Value.bool false, Value.int IntKind.u64 0, Value.int IntKind.u64 0] 26)) := hG.after bl_
    have hbel4 : Below w.heap.size w (w3.alloc (Obj.cells #[Value.bool false, Value.int IntKind.u64 0, Value.int IntKind.u64 0] 26)) := bl_
    clear hX hG hbel
    generalize w3.alloc (Obj.cells #[Value.bool false, Value.int IntKind.u64 0, Value.int IntKind.u64 0] 26) = w4 at *
    generalize w3.heap.size = g at *
    with_reducible refine (HT.out _ hG4).mono ?_
    rintro e w5 ⟨⟨n5, b5, hb5, rfl⟩, hb⟩
    have hX := hX4.after hb
    replace hbel := bl_trans hbel4 hb
    clear hb HT hb5 hA hX4 hG4 hbel4
    have z0 := hX.frozen 0
    have z1 := hX.frozen 1
    have z2 := hX.frozen 2
    have z3 := hX.frozen 3
    obtain ⟨x0, x1, x2, x3, _⟩ := blk_pfx hX
    go_wp2_with fail
    obtain ⟨r0, r1, r2, r3, _⟩ := blk_pfx (v := false) (n := 0) (b := 0) ((((hX.put 0 (.bool false)).put 1 (.int .u64 0)).put 2 (.int .u64 0)).put 3 (.int .i64 0))
    refine bodyPost_ret (v := .tuple #[.agg #[.bool false, .int .u64 0, .int .u64 0, .int .i64 0], .int .i64 4]) (by simp [results, Tryz.results65, go_sem, r0, r1, r2, r3, hi_zero, lo_zero]) rfl ⟨by rw [HE.out], bl_⟩
  | some x =>
    obtain ⟨v, n⟩ := x
    rw [hpa] at HA
    rw [show parseV (some (v, n)) = .tuple #[.agg #[.bool v, .int .u64 (hi n), .int .u64 (lo n)], .int .i64 0] from rfl] at HA
    have hn := parseA_lt hpa
    clear hpa
    cases ha : atoiP q with
    | none =>
      have HE := Lib.hid pfxR_none
      have HT := Lib.hid (fun w hG => atoi_no ⟨q.toArray⟩ w hq hG (by rw [bts_mk]; exact atoiP_none ha))
      clear hq ha hn
      go_enter Tryz.func65, Tryz.ntmps65
      go_wp2_with fail
      have hX : Blk (w.alloc (Obj.cells #[.bool false, .int .u64 0, .int .u64 0, .int .i64 0] 28)) (w.heap.size) 28 (PfxC false 0 0) := (Blk.new' _ _ _ _ (by simp) : Blk (w.alloc (Obj.cells #[.bool false, .int .u64 0, .int .u64 0, .int .i64 0] 28)) (w.heap.size) 28 (PfxC false 0 0))
      have hbel : Below w.heap.size w (w.alloc (Obj.cells #[.bool false, .int .u64 0, .int .u64 0, .int .i64 0] 28)) := bl_
      replace hG := hG.after hbel
      have hsz : (w.alloc (Obj.cells #[.bool false, .int .u64 0, .int .u64 0, .int .i64 0] 28)).heap.size = w.heap.size + 1 := by simp
      generalize w.alloc (Obj.cells #[.bool false, .int .u64 0, .int .u64 0, .int .i64 0] 28) = w1 at *
      refine (HC.out _ hG).mono ?_
      rintro e w2 ⟨rfl, kd, rfl⟩
      have hb := below_drewN' w1 kd
      replace hX := hX.after hb
      replace hG := hG.after hb
      replace hbel := bl_trans hbel hb
      clear hb HC hsz
      generalize w1.drewN kd = w2 at *
      go_wp2_with fail
      refine (HA.out _ hG).mono ?_
      rintro e w3 ⟨rfl, hb⟩
      replace hX := hX.after hb
      replace hG := hG.after hb
      replace hbel := bl_trans hbel hb
      clear hb HA
      go_wp2_with fail
      have hA4 : Blk (w3.alloc (Obj.cells #[Value.bool v, Value.int IntKind.u64 (hi n), Value.int IntKind.u64 (lo n)] 26)) w3.heap.size 26 (AddrC v n) := Blk.new _ _ _
      have hg4 : w.heap.size < w3.heap.size := hX.lt
      have hX4 := hX.alloc (Obj.cells #[Value.bool v, Value.int IntKind.u64 (hi n), Value.int IntKind.u64 (lo n)] 26)
      have hG4 : Glob (w3.alloc (Obj.cells #[Value.bool v, Value.int IntKind.u64 (hi n), Value.int IntKind.u64 (lo n)] 26)) := hG.after bl_
      have hbel4 : Below w.heap.size w (w3.alloc (Obj.cells #[Value.bool v, Value.int IntKind.u64 (hi n), Value.int IntKind.u64 (lo n)] 26)) := bl_
      clear hX hG hbel
      generalize w3.alloc (Obj.cells #[Value.bool v, Value.int IntKind.u64 (hi n), Value.int IntKind.u64 (lo n)] 26) = w4 at *
      generalize w3.heap.size = g at *
      with_reducible refine (HT.out _ hG4).mono ?_
      rintro e w5 ⟨⟨n5, N5, rfl⟩, hb⟩
      have hX := hX4.after hb
      replace hbel := bl_trans hbel4 hb
      clear hb HT hA4 hX4 hG4 hbel4
      have z0 := hX.frozen 0
      have z1 := hX.frozen 1
      have z2 := hX.frozen 2
      have z3 := hX.frozen 3
      obtain ⟨x0, x1, x2, x3, _⟩ := blk_pfx hX
      go_wp2_with fail
      obtain ⟨r0, r1, r2, r3, _⟩ := blk_pfx (v := false) (n := 0) (b := 0) ((((hX.put 0 (.bool false)).put 1 (.int .u64 0)).put 2 (.int .u64 0)).put 3 (.int .i64 0))
      refine bodyPost_ret (v := .tuple #[.agg #[.bool false, .int .u64 0, .int .u64 0, .int .i64 0], .int .i64 4]) (by simp [results, Tryz.results65, go_sem, r0, r1, r2, r3, hi_zero, lo_zero]) rfl ⟨by rw [HE.out], bl_⟩
    | some k =>
      have ha := atoiP_some ha
      obtain ⟨hk0, hk1⟩ := Lib.atoiAll_bounds ha
      have HT := Lib.hid (fun w (_ : Glob w) => atoi_yes ⟨q.toArray⟩ k w hq (by rw [bts_mk]; exact ha))
      have HI := Lib.hid (fun w hG => itoaI_c k w hk0 hk1 hG)
      clear hq ha hk0 hk1
      by_cases hs : Lib.itoa k = q
      · have HR := Lib.hid (fun w => rightP_c v n k w hn)
        subst hs
        dsimp only
        rw [show (Lib.itoa k == Lib.itoa k) = true from beq_self_eq_true _]
        simp only [Bool.true_and]
        generalize Lib.itoa k = q at *
        unfold PfxV PfxC at HR
        cases hr : rightP v n k with
        | false =>
          rw [hr] at HR
          rw [if_neg (by simp)]
          have HE := Lib.hid pfxR_none
          clear hr hn
          go_enter Tryz.func65, Tryz.ntmps65
          go_wp2_with fail
          have hX : Blk (w.alloc (Obj.cells #[.bool false, .int .u64 0, .int .u64 0, .int .i64 0] 28)) (w.heap.size) 28 (PfxC false 0 0) := (Blk.new' _ _ _ _ (by simp) : Blk (w.alloc (Obj.cells #[.bool false, .int .u64 0, .int .u64 0, .int .i64 0] 28)) (w.heap.size) 28 (PfxC false 0 0))
          have hbel : Below w.heap.size w (w.alloc (Obj.cells #[.bool false, .int .u64 0, .int .u64 0, .int .i64 0] 28)) := bl_
          replace hG := hG.after hbel
          have hsz : (w.alloc (Obj.cells #[.bool false, .int .u64 0, .int .u64 0, .int .i64 0] 28)).heap.size = w.heap.size + 1 := by simp
          generalize w.alloc (Obj.cells #[.bool false, .int .u64 0, .int .u64 0, .int .i64 0] 28) = w1 at *
          refine (HC.out _ hG).mono ?_
          rintro e w2 ⟨rfl, kd, rfl⟩
          have hb := below_drewN' w1 kd
          replace hX := hX.after hb
          replace hG := hG.after hb
          replace hbel := bl_trans hbel hb
          clear hb HC hsz
          generalize w1.drewN kd = w2 at *
          go_wp2_with fail
          refine (HA.out _ hG).mono ?_
          rintro e w3 ⟨rfl, hb⟩
          replace hX := hX.after hb
          replace hG := hG.after hb
          replace hbel := bl_trans hbel hb
          clear hb HA
          go_wp2_with fail
          have hA4 : Blk (w3.alloc (Obj.cells #[Value.bool v, Value.int IntKind.u64 (hi n), Value.int IntKind.u64 (lo n)] 26)) w3.heap.size 26 (AddrC v n) := Blk.new _ _ _
          have hg4 : w.heap.size < w3.heap.size := hX.lt
          have hX4 := hX.alloc (Obj.cells #[Value.bool v, Value.int IntKind.u64 (hi n), Value.int IntKind.u64 (lo n)] 26)
          have hG4 : Glob (w3.alloc (Obj.cells #[Value.bool v, Value.int IntKind.u64 (hi n), Value.int IntKind.u64 (lo n)] 26)) := hG.after bl_
          have hbel4 : Below w.heap.size w (w3.alloc (Obj.cells #[Value.bool v, Value.int IntKind.u64 (hi n), Value.int IntKind.u64 (lo n)] 26)) := bl_
          clear hX hG hbel
          generalize w3.alloc (Obj.cells #[Value.bool v, Value.int IntKind.u64 (hi n), Value.int IntKind.u64 (lo n)] 26) = w4 at *
          generalize w3.heap.size = g at *
          with_reducible refine (HT.out _ hG4).mono ?_
          rintro e w5 ⟨rfl, hb⟩
          have hX := hX4.after hb
          have hA := hA4.after hb
          have hG := hG4.after hb
          replace hbel := bl_trans hbel4 hb
          clear hb HT hA4 hX4 hG4 hbel4
          go_wp2_with fail
          with_reducible refine (HI.out _ hG).mono ?_
          rintro e w6 ⟨rfl, hb⟩
          replace hX := hX.after hb
          replace hA := hA.after hb
          replace hG := hG.after hb
          replace hbel := bl_trans hbel hb
          clear hb HI
          obtain ⟨a0, a1, a2, _⟩ := blk_adr hA
          have az0 := hA.frozen 0
          have az1 := hA.frozen 1
          have az2 := hA.frozen 2
          go_wp2_with fail
          have hP : Blk (w6.alloc (Obj.cells #[Value.bool v, Value.int IntKind.u64 (hi n), Value.int IntKind.u64 (lo n), Value.int IntKind.i64 k] 28)) w6.heap.size 28 (PfxC v n k) := Blk.new _ _ _
          have hX7 := hX.alloc (Obj.cells #[Value.bool v, Value.int IntKind.u64 (hi n), Value.int IntKind.u64 (lo n), Value.int IntKind.i64 k] 28)
          have hbel7 : Below w.heap.size w (w6.alloc (Obj.cells #[Value.bool v, Value.int IntKind.u64 (hi n), Value.int IntKind.u64 (lo n), Value.int IntKind.i64 k] 28)) := bl_
          have hne : w.heap.size < w6.heap.size := hX.lt
          clear hX hG hbel hA a0 a1 a2 az0 az1 az2
          generalize w6.alloc (Obj.cells #[Value.bool v, Value.int IntKind.u64 (hi n), Value.int IntKind.u64 (lo n), Value.int IntKind.i64 k] 28) = w7 at *
          generalize w6.heap.size = g7 at *
          with_reducible refine (HR.out _).mono ?_
          rintro e w8 ⟨rfl, hb⟩
          have hX := hX7.after hb
          have hPP := hP.after hb
          replace hbel := bl_trans hbel7 hb
          clear hb HR hX7 hP hbel7
          obtain ⟨p0, p1, p2, p3, _⟩ := blk_pfx hPP
          have z0 := hX.frozen 0
          have z1 := hX.frozen 1
          have z2 := hX.frozen 2
          have z3 := hX.frozen 3
          obtain ⟨x0, x1, x2, x3, _⟩ := blk_pfx hX
          go_wp2_with fail
          obtain ⟨r0, r1, r2, r3, _⟩ := blk_pfx (v := false) (n := 0) (b := 0) ((((hX.put 0 (.bool false)).put 1 (.int .u64 0)).put 2 (.int .u64 0)).put 3 (.int .i64 0))
          refine bodyPost_ret (v := .tuple #[.agg #[.bool false, .int .u64 0, .int .u64 0, .int .i64 0], .int .i64 4]) (by simp [results, Tryz.results65, go_sem, r0, r1, r2, r3, hi_zero, lo_zero]) rfl ⟨by rw [HE.out], bl_⟩
        | true =>
          rw [hr] at HR
          rw [if_pos rfl]
          have HE := Lib.hid (pfxR_some v n k)
          clear hr hn
          go_enter Tryz.func65, Tryz.ntmps65
          go_wp2_with fail
          have hX : Blk (w.alloc (Obj.cells #[.bool false, .int .u64 0, .int .u64 0, .int .i64 0] 28)) (w.heap.size) 28 (PfxC false 0 0) := (Blk.new' _ _ _ _ (by simp) : Blk (w.alloc (Obj.cells #[.bool false, .int .u64 0, .int .u64 0, .int .i64 0] 28)) (w.heap.size) 28 (PfxC false 0 0))
          have hbel : Below w.heap.size w (w.alloc (Obj.cells #[.bool false, .int .u64 0, .int .u64 0, .int .i64 0] 28)) := bl_
          replace hG := hG.after hbel
          have hsz : (w.alloc (Obj.cells #[.bool false, .int .u64 0, .int .u64 0, .int .i64 0] 28)).heap.size = w.heap.size + 1 := by simp
          generalize w.alloc (Obj.cells #[.bool false, .int .u64 0, .int .u64 0, .int .i64 0] 28) = w1 at *
          refine (HC.out _ hG).mono ?_
          rintro e w2 ⟨rfl, kd, rfl⟩
          have hb := below_drewN' w1 kd
          replace hX := hX.after hb
          replace hG := hG.after hb
          replace hbel := bl_trans hbel hb
          clear hb HC hsz
          generalize w1.drewN kd = w2 at *
          go_wp2_with fail
          refine (HA.out _ hG).mono ?_
          rintro e w3 ⟨rfl, hb⟩
          replace hX := hX.after hb
          replace hG := hG.after hb
          replace hbel := bl_trans hbel hb
          clear hb HA
          go_wp2_with fail
          have hA4 : Blk (w3.alloc (Obj.cells #[Value.bool v, Value.int IntKind.u64 (hi n), Value.int IntKind.u64 (lo n)] 26)) w3.heap.size 26 (AddrC v n) := Blk.new _ _ _
          have hg4 : w.heap.size < w3.heap.size := hX.lt
          have hX4 := hX.alloc (Obj.cells #[Value.bool v, Value.int IntKind.u64 (hi n), Value.int IntKind.u64 (lo n)] 26)
          have hG4 : Glob (w3.alloc (Obj.cells #[Value.bool v, Value.int IntKind.u64 (hi n), Value.int IntKind.u64 (lo n)] 26)) := hG.after bl_
          have hbel4 : Below w.heap.size w (w3.alloc (Obj.cells #[Value.bool v, Value.int IntKind.u64 (hi n), Value.int IntKind.u64 (lo n)] 26)) := bl_
          clear hX hG hbel
          generalize w3.alloc (Obj.cells #[Value.bool v, Value.int IntKind.u64 (hi n), Value.int IntKind.u64 (lo n)] 26) = w4 at *
          generalize w3.heap.size = g at *
          with_reducible refine (HT.out _ hG4).mono ?_
          rintro e w5 ⟨rfl, hb⟩
          have hX := hX4.after hb
          have hA := hA4.after hb
          have hG := hG4.after hb
          replace hbel := bl_trans hbel4 hb
          clear hb HT hA4 hX4 hG4 hbel4
          go_wp2_with fail
          with_reducible refine (HI.out _ hG).mono ?_
          rintro e w6 ⟨rfl, hb⟩
          replace hX := hX.after hb
          replace hA := hA.after hb
          replace hG := hG.after hb
          replace hbel := bl_trans hbel hb
          clear hb HI
          obtain ⟨a0, a1, a2, _⟩ := blk_adr hA
          have az0 := hA.frozen 0
          have az1 := hA.frozen 1
          have az2 := hA.frozen 2
          go_wp2_with fail
          have hP : Blk (w6.alloc (Obj.cells #[Value.bool v, Value.int IntKind.u64 (hi n), Value.int IntKind.u64 (lo n), Value.int IntKind.i64 k] 28)) w6.heap.size 28 (PfxC v n k) := Blk.new _ _ _
          have hX7 := hX.alloc (Obj.cells #[Value.bool v, Value.int IntKind.u64 (hi n), Value.int IntKind.u64 (lo n), Value.int IntKind.i64 k] 28)
          have hbel7 : Below w.heap.size w (w6.alloc (Obj.cells #[Value.bool v, Value.int IntKind.u64 (hi n), Value.int IntKind.u64 (lo n), Value.int IntKind.i64 k] 28)) := bl_
          have hne : w.heap.size < w6.heap.size := hX.lt
          clear hX hG hbel hA a0 a1 a2 az0 az1 az2
          generalize w6.alloc (Obj.cells #[Value.bool v, Value.int IntKind.u64 (hi n), Value.int IntKind.u64 (lo n), Value.int IntKind.i64 k] 28) = w7 at *
          generalize w6.heap.size = g7 at *
          with_reducible refine (HR.out _).mono ?_
          rintro e w8 ⟨rfl, hb⟩
          have hX := hX7.after hb
          have hPP := hP.after hb
          replace hbel := bl_trans hbel7 hb
          clear hb HR hX7 hP hbel7
          obtain ⟨p0, p1, p2, p3, _⟩ := blk_pfx hPP
          have z0 := hX.frozen 0
          have z1 := hX.frozen 1
          have z2 := hX.frozen 2
          have z3 := hX.frozen 3
          obtain ⟨x0, x1, x2, x3, _⟩ := blk_pfx hX
          go_wp2_with fail
          obtain ⟨r0, r1, r2, r3, _⟩ := blk_pfx (v := v) (n := n) (b := k) ((((hX.put 0 (.bool v)).put 1 (.int .u64 (hi n))).put 2 (.int .u64 (lo n))).put 3 (.int .i64 k))
          refine bodyPost_ret (v := .tuple #[.agg #[.bool v, .int .u64 (hi n), .int .u64 (lo n), .int .i64 k], .int .i64 0]) (by simp [results, Tryz.results65, go_sem, r0, r1, r2, r3]) rfl ⟨by rw [HE.out], bl_⟩
      · have hn' := hn
        dsimp only
        have hqq : (Lib.itoa k == q) = false := beq_eq_false_iff_ne.mpr hs
        rw [hqq]
        simp only [Bool.false_and]
        rw [if_neg (by simp)]
        have HE := Lib.hid pfxR_none
        have hd := hqq
        clear hqq hs hn
        go_enter Tryz.func65, Tryz.ntmps65
        go_wp2_with fail
        have hX : Blk (w.alloc (Obj.cells #[.bool false, .int .u64 0, .int .u64 0, .int .i64 0] 28)) (w.heap.size) 28 (PfxC false 0 0) := (Blk.new' _ _ _ _ (by simp) : Blk (w.alloc (Obj.cells #[.bool false, .int .u64 0, .int .u64 0, .int .i64 0] 28)) (w.heap.size) 28 (PfxC false 0 0))
        have hbel : Below w.heap.size w (w.alloc (Obj.cells #[.bool false, .int .u64 0, .int .u64 0, .int .i64 0] 28)) := bl_
        replace hG := hG.after hbel
        have hsz : (w.alloc (Obj.cells #[.bool false, .int .u64 0, .int .u64 0, .int .i64 0] 28)).heap.size = w.heap.size + 1 := by simp
        generalize w.alloc (Obj.cells #[.bool false, .int .u64 0, .int .u64 0, .int .i64 0] 28) = w1 at *
        refine (HC.out _ hG).mono ?_
        rintro e w2 ⟨rfl, kd, rfl⟩
        have hb := below_drewN' w1 kd
        replace hX := hX.after hb
        replace hG := hG.after hb
        replace hbel := bl_trans hbel hb
        clear hb HC hsz
        generalize w1.drewN kd = w2 at *
        go_wp2_with fail
        refine (HA.out _ hG).mono ?_
        rintro e w3 ⟨rfl, hb⟩
        replace hX := hX.after hb
        replace hG := hG.after hb
        replace hbel := bl_trans hbel hb
        clear hb HA
        go_wp2_with fail
        have hA4 : Blk (w3.alloc (Obj.cells #[Value.bool v, Value.int IntKind.u64 (hi n), Value.int IntKind.u64 (lo n)] 26)) w3.heap.size 26 (AddrC v n) := Blk.new _ _ _
        have hg4 : w.heap.size < w3.heap.size := hX.lt
        have hX4 := hX.alloc (Obj.cells #[Value.bool v, Value.int IntKind.u64 (hi n), Value.int IntKind.u64 (lo n)] 26)
        have hG4 : Glob (w3.alloc (Obj.cells #[Value.bool v, Value.int IntKind.u64 (hi n), Value.int IntKind.u64 (lo n)] 26)) := hG.after bl_
        have hbel4 : Below w.heap.size w (w3.alloc (Obj.cells #[Value.bool v, Value.int IntKind.u64 (hi n), Value.int IntKind.u64 (lo n)] 26)) := bl_
        clear hX hG hbel
        generalize w3.alloc (Obj.cells #[Value.bool v, Value.int IntKind.u64 (hi n), Value.int IntKind.u64 (lo n)] 26) = w4 at *
        generalize w3.heap.size = g at *
        with_reducible refine (HT.out _ hG4).mono ?_
        rintro e w5 ⟨rfl, hb⟩
        have hX := hX4.after hb
        have hA := hA4.after hb
        have hG := hG4.after hb
        replace hbel := bl_trans hbel4 hb
        clear hb HT hA4 hX4 hG4 hbel4
        go_wp2_with fail
        with_reducible refine (HI.out _ hG).mono ?_
        rintro e w6 ⟨rfl, hb⟩
        replace hX := hX.after hb
        replace hA := hA.after hb
        replace hG := hG.after hb
        replace hbel := bl_trans hbel hb
        clear hb HI hA hG
        have z0 := hX.frozen 0
        have z1 := hX.frozen 1
        have z2 := hX.frozen 2
        have z3 := hX.frozen 3
        obtain ⟨x0, x1, x2, x3, _⟩ := blk_pfx hX
        go_wp2_with fail
        obtain ⟨r0, r1, r2, r3, _⟩ := blk_pfx (v := false) (n := 0) (b := 0) ((((hX.put 0 (.bool false)).put 1 (.int .u64 0)).put 2 (.int .u64 0)).put 3 (.int .i64 0))
        refine bodyPost_ret (v := .tuple #[.agg #[.bool false, .int .u64 0, .int .u64 0, .int .i64 0], .int .i64 4]) (by simp [results, Tryz.results65, go_sem, r0, r1, r2, r3, hi_zero, lo_zero]) rfl ⟨by rw [HE.out], bl_⟩
end Go.Proofs.YtpfilldnfpcpkaaGreatDoor

namespace Go.Proofs.YtpfilldnfpcpkaaGreatDoor
open Go.RowKit

def prefix_Parse.f (a0 : ByteArray) : Option (Bool × Int × Int × Int × Int) := if decide (a0.size ≤ 1000000) = true then some ((pfxP (parsePfx (bts a0))).1, hi (pfxP (parsePfx (bts a0))).2.1, lo (pfxP (parsePfx (bts a0))).2.1, (pfxP (parsePfx (bts a0))).2.2.1, (pfxP (parsePfx (bts a0))).2.2.2) else none
theorem prefix_Parse.calls (a0 : ByteArray) (r1 : Bool) (r2 r3 r4 r5 : Int) (w : World) (hG : Glob w) (h : prefix_Parse.f a0 = some (r1, r2, r3, r4, r5)) :
    Calls Tryz.prog 65 #[.string a0] w fun e w' => e = .returned (.tuple #[.agg #[.bool r1, .int .u64 r2, .int .u64 r3, .int .i64 r4], .int .i64 r5]) ∧ Below w.heap.size w w' := by
  unfold prefix_Parse.f at h
  obtain ⟨hg, h⟩ := some_if h
  simp only [Prod.mk.injEq] at h
  obtain ⟨rfl, rfl, rfl, rfl, rfl⟩ := h
  exact ppfx_c a0 w (of_decide_eq_true hg) hG
def strconv_Itoa.f (a0 : Int) : Option ByteArray := if (decide (-9223372036854775808 ≤ a0) && decide (a0 ≤ 9223372036854775807)) = true then some (⟨(Lib.itoa a0).toArray⟩ : ByteArray) else none
theorem strconv_Itoa.calls (a0 : Int) (r : ByteArray) (w : World) (hG : Glob w) (h : strconv_Itoa.f a0 = some r) :
    Calls Tryz.prog 114 #[.int .i64 a0] w fun e w' => e = .returned (.string r) ∧ Below w.heap.size w w' := by
  unfold strconv_Itoa.f at h
  obtain ⟨hg, h⟩ := some_if h
  simp only [Bool.and_eq_true] at hg
  subst h
  exact itoaI_c a0 w (of_decide_eq_true hg.1) (of_decide_eq_true hg.2) hG
end Go.Proofs.YtpfilldnfpcpkaaGreatDoor

namespace Go.Proofs.YtpfilldnfpcpkaaGreatDoor
open Go.RowKit

set_option maxRecDepth 100000 in
set_option maxHeartbeats 1600000 in
theorem refadd_c (a b : Nat) (w : World) (ha : a < 340282366920938463463374607431768211456) (hb : b < 340282366920938463463374607431768211456) :
    Calls Tryz.prog 169 #[numV a, numV b] w fun e w' => e = .returned (.tuple #[numV (addN a b), .bool (addF a b)]) ∧ Below w.heap.size w w' := by
  obtain ⟨i0, hi0, hz0, hz1, hz2⟩ := info_parts info_int
  have HE := Lib.hid (carry_end ha hb)
  go_enter Tryz.func169, Tryz.ntmps169
  go_wp2_with fail
  refine (bits_f _ _ _ (hi_nn _) (hi_lt _) (lo_nn _) (lo_lt _)).mono ?_
  rw [num_hi_lo ha]
  rintro e w1 ⟨gx, cx, rfl, hcx, hgx, hgx2, hxc, _, hb1⟩
  obtain ⟨hc1, hf1⟩ := bcell hb1
  have hz1' := hb1.size
  simp only [size_alloc'] at hz1' hgx
  have hs0 : w.heap.size < w1.heap.size := by omega
  have hs1 : w.heap.size + 1 < w1.heap.size := by omega
  have hs2 : w.heap.size + 1 + 1 < w1.heap.size := by omega
  have HX := Lib.hid hxc
  clear hxc
  go_wp2_with fail
  refine (bits_f _ _ _ (hi_nn _) (hi_lt _) (lo_nn _) (lo_lt _)).mono ?_
  rw [num_hi_lo hb]
  rintro e w2 ⟨gy, cy, rfl, hcy, hgy, hgy2, hyc, _, hb2⟩
  have hz2' := hb2.size
  have hbR : Blk w2 (w.heap.size + 1 + 1) 24 #[.int .u64 0, .int .u64 0] := bk_
  have hbel2 : Below w.heap.size w w2 := bl_
  have hxc : ∀ j, j < 128 → w2.cell? ⟨gx, j, none⟩ = some (.int .i64 (bitI a j)) := fun j hj => (hb2.cell (p := ⟨gx, j, none⟩) hgx2).trans (HX.out j hj)
  have HX2 := Lib.hid hxc
  have HY := Lib.hid hyc
  clear hxc hyc HX hc1 hf1 hb1 hb2
  have hgx3 : gx < w2.heap.size := by omega
  have hgy3 : gy < w2.heap.size := by omega
  clear hs0 hs1 hs2
  have ho := own_empty w2 3 w2.heap.size (Nat.le_refl _)
  go_wp2_with fail
  go_loopw [8, 9, 10] (fun out c i wr => ∃ k : Nat, k ≤ 128 ∧ i = .int .i64 k ∧ c = .int .i64 (carryN a b k : Nat) ∧ wr.ownsRow w2.heap.size 3 1 out k (rowV (bitI (a + b)) k) ∧ Below w2.heap.size w2 wr) (fun _ _ i _ => 128 - (intOf i).toNat)
  case atStart => exact ⟨0, by omega, rfl, by rw [carry_zero]; rfl, ho, bl_⟩
  case round =>
    obtain ⟨k, hk, rfl, rfl, hown, hbel⟩ := hrel
    by_cases hlt : k < 128
    · have x0 : wr.cell? ⟨gx, k, none⟩ = some (.int .i64 (bitI a k)) := (hbel.cell (p := ⟨gx, k, none⟩) hgx3).trans (HX2.out k hlt)
      have y0 : wr.cell? ⟨gy, k, none⟩ = some (.int .i64 (bitI b k)) := (hbel.cell (p := ⟨gy, k, none⟩) hgy3).trans (HY.out k hlt)
      obtain ⟨x1, x2⟩ := bitI_bd a k
      obtain ⟨y1, y2⟩ := bitI_bd b k
      have c1 := carry_bd a b k
      obtain ⟨s1, s2⟩ := add_stepI a b k
      have S1 := Lib.hid s1
      have S2 := Lib.hid s2
      clear s1 s2
      generalize bitI a k = xk at *
      generalize bitI b k = yk at *
      have hz := hbel.size
      have dk : decide ((k : Int) < 128) = true := decide_eq_true (by omega)
      have cb : ((carryN a b k : Nat) : Int) ≤ 1 := by omega
      go_wp2_with fail
      go_region
      have hownq : wr.drew.ownsRow w2.heap.size 3 1 _ k (rowV (bitI (a + b)) k) := hown
      have hbelq : Below w2.heap.size w2 wr.drew := hbel.drew
      have hzq : w2.heap.size ≤ wr.drew.heap.size := hz
      clear hown hbel hz x0 y0
      generalize wr.drew = wq at *
      go_wp2_with (at_builtin; refine wpList_append_own _ rfl _ _ 52 rfl w2.heap.size 3 i0 (.int .i64 0) 1 8 Tryz.underlying52 hi0 hz0 hz1 hz2 rfl (by decide) _ _ _ rfl (hownq.alloc _) ⟨wq.heap.size, 0, none⟩ 1 1 [.int .i64 ((xk + yk + (carryN a b k : Int)) % 2)] rfl rfl ?q1_1 ?q1_2 ?q1_3 ?q1_4 ?q1_5 ?_)
      (try case q1_1 => exact cell_one _ _ _)
      (try case q1_2 => (first | exact one_cell_int _ | rfl))
      case q1_3 => (first | (simp only [maxLen]; omega) | omega)
      case q1_4 => omega
      case q1_5 => (first | (rw [size_alloc']; omega) | omega)
      intro v' w1 hown' hgrow _
      have hbel1 := below_own hbelq hownq (Nat.le_refl _) hgrow
      clear hownq hgrow
      go_wp2_with fail
      go_roundw
      case rel => exact ⟨k + 1, by omega, by go_num, by rw [S2.out], by rw [rowV_succ, ← S1.out]; exact hown', hbel1⟩
      case measure => simp [intOf]; omega
    · obtain rfl : k = 128 := by omega
      have hzz := hbel.size
      have hbR2 : Blk wr (w.heap.size + 1 + 1) 24 #[.int .u64 0, .int .u64 0] := hbR.after hbel
      go_wp2_with fail
      refine (refnum_own hown (fun j _ => rfl)).mono ?_
      rintro e w3 ⟨rfl, hb3⟩
      have hbR3 := hbR2.after hb3
      have hbel3 : Below w.heap.size w w3 := bl_
      obtain ⟨k0, k1, _⟩ := blk_two hbR3
      have z0 := hbR3.frozen 0
      have z1 := hbR3.frozen 1
      go_wp2_with fail
      refine bodyPost_ret (v := .tuple #[numV (addN a b), .bool (((carryN a b 128 : Nat) : Int) == 0)]) (by simp [results, Tryz.results169, go_sem, k0, k1, addN]) rfl ⟨by rw [HE.out], bl_⟩
end Go.Proofs.YtpfilldnfpcpkaaGreatDoor

namespace Go.Proofs.YtpfilldnfpcpkaaGreatDoor
open Go.RowKit

set_option maxRecDepth 100000 in
set_option maxHeartbeats 1600000 in
theorem refcmp_c (a b : Nat) (w : World) (ha : a < 340282366920938463463374607431768211456) (hb : b < 340282366920938463463374607431768211456) :
    Calls Tryz.prog 144 #[numV a, numV b] w fun e w' => e = .returned (.int .i64 (cmpN a b)) ∧ Below w.heap.size w w' := by
  have h128 : a / 2 ^ 128 = b / 2 ^ 128 := by rw [two128, Nat.div_eq_of_lt ha, Nat.div_eq_of_lt hb]
  go_enter Tryz.func144, Tryz.ntmps144
  go_wp2_with fail
  refine (bits_f _ _ _ (hi_nn _) (hi_lt _) (lo_nn _) (lo_lt _)).mono ?_
  rw [num_hi_lo ha]
  rintro e w1 ⟨gx, cx, rfl, hcx, hgx, hgx2, hxc, _, hb1⟩
  obtain ⟨hc1, hf1⟩ := bcell hb1
  have hz1' := hb1.size
  simp only [size_alloc'] at hz1' hgx
  have hs0 : w.heap.size < w1.heap.size := by omega
  have hs1 : w.heap.size + 1 < w1.heap.size := by omega
  have HX := Lib.hid hxc
  clear hxc
  go_wp2_with fail
  refine (bits_f _ _ _ (hi_nn _) (hi_lt _) (lo_nn _) (lo_lt _)).mono ?_
  rw [num_hi_lo hb]
  rintro e w2 ⟨gy, cy, rfl, hcy, hgy, hgy2, hyc, _, hb2⟩
  have hz2' := hb2.size
  have hbel2 : Below w.heap.size w w2 := bl_
  have hxc : ∀ j, j < 128 → w2.cell? ⟨gx, j, none⟩ = some (.int .i64 (bitI a j)) := fun j hj => (hb2.cell (p := ⟨gx, j, none⟩) hgx2).trans (HX.out j hj)
  have HX2 := Lib.hid hxc
  have HY := Lib.hid hyc
  clear hxc hyc HX hc1 hf1 hb1 hb2
  have hgx3 : gx < w2.heap.size := by omega
  have hgy3 : gy < w2.heap.size := by omega
  clear hs0 hs1
  go_wp2_with fail
  go_loopw [7] (fun i wr => ∃ k : Nat, k ≤ 128 ∧ i = .int .i64 ((k : Int) - 1) ∧ a / 2 ^ k = b / 2 ^ k ∧ Below w2.heap.size w2 wr) (fun i _ => (intOf i + 1).toNat)
  case atStart => exact ⟨128, by omega, rfl, h128, bl_⟩
  case round =>
    obtain ⟨k, hk, rfl, hsame, hbel⟩ := hrel
    have HS := Lib.hid hsame
    clear hsame
    by_cases h0 : k = 0
    · subst h0
      have hc := cmp_eq HS.out
      have HC := Lib.hid hc
      clear hc
      rw [show ((0 : Nat) : Int) - 1 = (-1 : Int) from rfl]
      go_wp2_with fail
      go_ret
      exact ⟨by rw [HC.out]; rfl, bl_⟩
    · obtain ⟨j, rfl⟩ : ∃ j, k = j + 1 := ⟨k - 1, by omega⟩
      rw [show (((j + 1 : Nat) : Int) - 1) = (j : Int) from by omega]
      have x0 : wr.cell? ⟨gx, j, none⟩ = some (.int .i64 (bitI a j)) := (hbel.cell (p := ⟨gx, j, none⟩) hgx3).trans (HX2.out j (by omega))
      have y0 : wr.cell? ⟨gy, j, none⟩ = some (.int .i64 (bitI b j)) := (hbel.cell (p := ⟨gy, j, none⟩) hgy3).trans (HY.out j (by omega))
      obtain ⟨x1, x2⟩ := bitI_bd a j
      obtain ⟨y1, y2⟩ := bitI_bd b j
      have dj : decide ((0 : Int) ≤ (j : Int)) = true := decide_eq_true (by omega)
      by_cases he : bitI a j = bitI b j
      · have hs := cmp_same HS.out he
        have HS2 := Lib.hid hs
        rw [he] at x0 x1 x2
        clear hs he HS
        go_wp2_with fail
        go_region
        go_wp2_with fail
        go_roundw
        case rel => exact ⟨j, by omega, rfl, HS2.out, bl_⟩
        case measure => simp [intOf]
      · have hc := cmp_bits HS.out he
        have HC := Lib.hid hc
        have dn : (bitI a j != bitI b j) = true := by simpa using he
        clear hc he HS
        go_wp2_with fail
        go_region
        go_wp2_with fail
        go_region
        go_wp2_with fail
        go_ret
        exact ⟨by rw [← HC.out]; rfl, bl_⟩
end Go.Proofs.YtpfilldnfpcpkaaGreatDoor

namespace Go.Proofs.YtpfilldnfpcpkaaGreatDoor
open Go.RowKit

def platbookref01_Add.f (a0_0 a0_1 : Int) (a1_0 a1_1 : Int) : Option (Int × Int × Bool) := if (okW a0_0 a0_1 && (okW a1_0 a1_1)) = true then some (hi (addN (num a0_0 a0_1) (num a1_0 a1_1)), lo (addN (num a0_0 a0_1) (num a1_0 a1_1)), addF (num a0_0 a0_1) (num a1_0 a1_1)) else none
theorem platbookref01_Add.calls (a0_0 a0_1 : Int) (a1_0 a1_1 : Int) (r1 r2 : Int) (r3 : Bool) (w : World) (h : platbookref01_Add.f a0_0 a0_1 a1_0 a1_1 = some (r1, r2, r3)) :
    Calls Tryz.prog 169 #[.agg #[.int .u64 a0_0, .int .u64 a0_1], .agg #[.int .u64 a1_0, .int .u64 a1_1]] w fun e w' => e = .returned (.tuple #[.agg #[.int .u64 r1, .int .u64 r2], .bool r3]) ∧ Below w.heap.size w w' := by
  unfold platbookref01_Add.f at h
  obtain ⟨hg, h⟩ := some_if h
  simp only [Bool.and_eq_true] at hg
  obtain ⟨g0, g1⟩ := hg
  simp only [Prod.mk.injEq] at h
  obtain ⟨rfl, rfl, rfl⟩ := h
  rw [okW_num g0, okW_num g1]
  exact refadd_c (num a0_0 a0_1) (num a1_0 a1_1) w (okW_lt g0) (okW_lt g1)
def platbookref01_Cmp.f (a0_0 a0_1 : Int) (a1_0 a1_1 : Int) : Option Int := if (okW a0_0 a0_1 && (okW a1_0 a1_1)) = true then some (cmpN (num a0_0 a0_1) (num a1_0 a1_1)) else none
theorem platbookref01_Cmp.calls (a0_0 a0_1 : Int) (a1_0 a1_1 : Int) (r : Int) (w : World) (h : platbookref01_Cmp.f a0_0 a0_1 a1_0 a1_1 = some r) :
    Calls Tryz.prog 144 #[.agg #[.int .u64 a0_0, .int .u64 a0_1], .agg #[.int .u64 a1_0, .int .u64 a1_1]] w fun e w' => e = .returned (.int .i64 r) ∧ Below w.heap.size w w' := by
  unfold platbookref01_Cmp.f at h
  obtain ⟨hg, h⟩ := some_if h
  simp only [Bool.and_eq_true] at hg
  obtain ⟨g0, g1⟩ := hg
  subst h
  rw [okW_num g0, okW_num g1]
  exact refcmp_c (num a0_0 a0_1) (num a1_0 a1_1) w (okW_lt g0) (okW_lt g1)
end Go.Proofs.YtpfilldnfpcpkaaGreatDoor

namespace Go.Proofs.YtpfilldnfpcpkaaGreatDoor
open Go.RowKit

theorem byte_up (n m r : Nat) (hr : r < 8) : 2 * (n / 2 ^ (m + 8 - r) % 2 ^ r) + n / 2 ^ (m + 7 - r) % 2 = n / 2 ^ (m + 8 - (r + 1)) % 2 ^ (r + 1) := by
  have h := bit_up n (m + 7 - r) r
  rw [show m + 7 - r + 1 = m + 8 - r by omega] at h
  rw [show m + 8 - (r + 1) = m + 7 - r by omega, h]
set_option maxRecDepth 100000 in
set_option maxHeartbeats 3200000 in
theorem rbytes_c (v6 : Bool) (n : Nat) (w : World) (hn : n < 340282366920938463463374607431768211456) :
    Calls Tryz.prog 162 #[AddrV v6 n] w fun e w' => ∃ v, e = .returned v ∧ w'.ownsRow w.heap.size 5 1 v (byteN v6) (bytesV (ints (bytesB (byteN v6) n))) ∧ Below w.heap.size w w' := by
  obtain ⟨i0, hi0, hz0, hz1, hz2⟩ := info_parts info_u8
  have HW := Lib.hid (fun w => rwidth_c v6 n w)
  rw [byteN_w] at HW
  have hb4 : 4 ≤ byteN v6 ∧ byteN v6 ≤ 16 := by cases v6 <;> decide
  have HB := Lib.hid (fun i (hi : i < byteN v6) => bytesB_mod (n := n) hi)
  have HBI := Lib.hid (fun (w : World) => bits_f (hi n) (lo n) w (hi_nn _) (hi_lt _) (lo_nn _) (lo_lt _))
  rw [num_hi_lo hn] at HBI
  rw [AddrV_eq] at *
  unfold AddrC at *
  generalize byteN v6 = kb at *
  go_enter Tryz.func162, Tryz.ntmps162
  go_wp2_with fail
  have hA : Blk (w.alloc (Obj.cells #[.bool v6, .int .u64 (hi n), .int .u64 (lo n)] 26)) (w.heap.size) 26 (AddrC v6 n) := (Blk.new' _ _ _ _ (by simp) : Blk (w.alloc (Obj.cells #[.bool v6, .int .u64 (hi n), .int .u64 (lo n)] 26)) (w.heap.size) 26 (AddrC v6 n))
  have hbel : Below w.heap.size w (w.alloc (Obj.cells #[.bool v6, .int .u64 (hi n), .int .u64 (lo n)] 26)) := bl_
  have hsz : (w.alloc (Obj.cells #[.bool v6, .int .u64 (hi n), .int .u64 (lo n)] 26)).heap.size = w.heap.size + 1 := by simp
  generalize w.alloc (Obj.cells #[.bool v6, .int .u64 (hi n), .int .u64 (lo n)] 26) = w0 at *
  refine (HBI.out _).mono ?_
  rintro e w1 ⟨gx, cx, rfl, hcx, hgx, hgx2, hxc, _, hb⟩
  replace hA := hA.after hb
  have hs1 := hb.size
  replace hbel := bl_trans hbel hb
  have HX := Lib.hid hxc
  clear hxc hb
  have hlA := hA.lt
  obtain ⟨c0, c1, c2, _⟩ := blk_adr hA
  have cz0 := hA.frozen 0
  have cz1 := hA.frozen 1
  have cz2 := hA.frozen 2
  go_wp2_with fail
  have hown : (w1.alloc (.cells #[] 5)).ownsRow w1.heap.size 5 1 (.slice (some ⟨w1.heap.size, 0, none⟩) 0 0) 0 [] := own_empty w1 _ _ (Nat.le_refl _)
  have hbx : Below w1.heap.size w1 (w1.alloc (.cells #[] 5)) := bl_
  generalize w1.alloc (.cells #[] 5) = w2 at *
  refine (HW.out _).mono ?_
  rintro e w3 ⟨rfl, hb⟩
  replace hown := own_after hown hb
  replace hbx := bl_trans hbx hb
  clear hb hA c0 c1 c2 cz0 cz1 cz2
  go_wp2_with fail
  go_loopw [4, 5] (fun b i wr => ∃ t : Nat, t ≤ kb ∧ i = .int .i64 (8 * (kb : Int) - 1 - 8 * t) ∧ wr.ownsRow w1.heap.size 5 1 b t (bytesV (ints ((bytesB kb n).take t))) ∧ Below w1.heap.size w1 wr) (fun _ i _ => (intOf i + 8).toNat)
  case atStart => exact ⟨0, by omega, by go_num, hown, hbx⟩
  case round =>
    clear hown hbx
    obtain ⟨t, ht, rfl, hown, hbx⟩ := hrel
    have hz := hbx.size
    by_cases hlt : t < kb
    · obtain ⟨K, hK⟩ : ∃ K : Nat, 8 * (kb : Int) - 1 - 8 * t = (K : Int) := ⟨8 * (kb - 1 - t) + 7, by omega⟩
      have hK2 : K = 8 * (kb - 1 - t) + 7 := by omega
      rw [hK]
      have HK2 := Lib.hid hK2
      have d1 : 0 ≤ (K : Int) := by omega
      have hK3 : K < 128 := by omega
      have HK := Lib.hid hK
      clear hK hK2
      go_wp2_with fail
      go_loopw [6, 7] (fun vn vi ws => ∃ r : Nat, r ≤ 8 ∧ vi = .int .i64 r ∧ vn = .int .i64 ((n / 2 ^ (8 * (kb - 1 - t) + 8 - r) % 2 ^ r : Nat)) ∧ Below wr.heap.size wr ws) (fun _ i _ => 8 - (intOf i).toNat)
      case atStart => exact ⟨0, by omega, rfl, by simp [Nat.mod_one], Below.refl _ _⟩
      case round =>
        obtain ⟨r, hr, rfl, rfl, hbs⟩ := hrel
        have hpr : n / 2 ^ (8 * (kb - 1 - t) + 8 - r) % 2 ^ r < 2 ^ r := Nat.mod_lt _ (Nat.two_pow_pos r)
        have hpr2 : 2 ^ r ≤ 256 := by
          have := Nat.pow_le_pow_right (n := 2) (by omega) hr
          exact this
        by_cases hl8 : r < 8
        · have d2 : (r : Int) < 8 := by omega
          have hup := byte_up n (8 * (kb - 1 - t)) r hl8
          have hKr : K - r = 8 * (kb - 1 - t) + 7 - r := by have := HK2.out; omega
          have hrK : r ≤ K := by have := HK2.out; omega
          have x0 : wr.cell? ⟨gx, K - r, none⟩ = some (.int .i64 (bitI n (K - r))) := (hbs.cell (p := ⟨gx, _, none⟩) (Nat.lt_of_lt_of_le hgx2 hz)).trans ((hbx.cell (p := ⟨gx, _, none⟩) hgx2).trans (HX.out _ (by omega)))
          have hbi : bitI n (K - r) = ((n / 2 ^ (8 * (kb - 1 - t) + 7 - r) % 2 : Nat) : Int) := by rw [hKr]; rfl
          rw [hbi] at x0
          have HUP := Lib.hid hup
          have hy : n / 2 ^ (8 * (kb - 1 - t) + 7 - r) % 2 < 2 := Nat.mod_lt _ (by omega)
          generalize n / 2 ^ (8 * (kb - 1 - t) + 7 - r) % 2 = y at *
          generalize n / 2 ^ (8 * (kb - 1 - t) + 8 - r) % 2 ^ r = x at *
          clear hup hbi hKr
          go_wp2_with fail
          go_roundw
          case rel => exact ⟨r + 1, by omega, by go_num, by rw [← HUP.out]; go_num, hbs⟩
          case measure => simp [intOf]; omega
        · obtain rfl : r = 8 := by omega
          have hbt : ints ((bytesB kb n).take (t + 1)) = ints ((bytesB kb n).take t) ++ [((n / 2 ^ (8 * (kb - 1 - t) + 8 - 8) % 2 ^ 8 : Nat) : Int)] := by
            have hl : t < (bytesB kb n).length := by rw [bytesB_len]; exact hlt
            have := HB.out t hlt
            rw [List.getElem?_eq_getElem hl] at this
            injection this with this
            rw [List.take_succ_eq_append_getElem hl, ints_snoc, this]
            rfl
          have HBT := Lib.hid hbt
          generalize n / 2 ^ (8 * (kb - 1 - t) + 8 - 8) % 2 ^ 8 = y at *
          have hcy : IntKind.u8.wrap (y : Int) = y := by show (y : Int) % 256 = y; omega
          replace hown := own_after hown hbs
          replace hbx := bl_trans hbx hbs
          have hsz2 := hbx.size
          clear hbt hz
          go_wp2_with (at_builtin; refine wpList_append_own _ rfl _ _ 166 rfl w1.heap.size 5 i0 (.int .u8 0) 1 1 Tryz.underlying166 hi0 hz0 hz1 hz2 rfl (by decide) _ _ _ rfl (hown.alloc _) ⟨wr.heap.size, 0, none⟩ 1 1 [.int .u8 (y : Int)] rfl rfl ?z1_1 ?z1_2 ?z1_3 ?z1_4 ?z1_5 ?_)
          (try case z1_1 => exact cell_list _ _ _)
          (try case z1_2 => (first | exact one_cell_k _ _ | rfl | (intro u hu; simp at hu; (try rcases hu with rfl | rfl) <;> (try subst hu) <;> rfl)))
          case z1_3 => (first | (simp only [maxLen]; omega) | omega)
          (try case z1_4 => omega)
          (try case z1_5 => (first | omega | (simp; omega)))
          (try case z1_2 => (first | exact one_cell_k _ _ | rfl | (intro u hu; simp at hu; (try rcases hu with rfl | rfl) <;> (try subst hu) <;> rfl)))
          intro v' wa hown' hgrow _
          have hbel1 := below_own hbx hown (by first | exact Nat.le_refl _ | omega) hgrow
          go_wp2_with fail
          go_roundw
          case rel => exact ⟨t + 1, by omega, by have := HK.out; first | go_num | (congr 1; omega), by rw [HBT.out, bytesV_snoc]; exact hown', hbel1⟩
          case measure => have := HK.out; simp [intOf]; omega
    · obtain rfl : t = kb := by omega
      have d1 : ¬ 0 ≤ 8 * (t : Int) - 1 - 8 * t := by omega
      rw [List.take_of_length_le (by rw [bytesB_len]; exact Nat.le_refl _)] at hown
      go_wp2_with fail
      go_ret
      exact ⟨_, rfl, own_lower hown hbel.size, bl_trans hbel hbx⟩
end Go.Proofs.YtpfilldnfpcpkaaGreatDoor

namespace Go.Proofs.YtpfilldnfpcpkaaGreatDoor
open Go.RowKit

def decL (n : Nat) : List Int := (if 100 ≤ n then [48 + (n : Int) / 100] else []) ++ (if 10 ≤ n then [48 + (n : Int) / 10 % 10] else []) ++ [48 + (n : Int) % 10]
theorem decL_all : ∀ n, n < 256 → ints ((Lib.decDigits n).map UInt8.toNat) = decL n := by decide +kernel
theorem decL_txt {n : Nat} (h : n < 256) : strOfNums (decL n) = itoaT n := by
  rw [← decL_all n h, txt_back]; rfl
set_option maxRecDepth 100000 in
set_option maxHeartbeats 3200000 in
theorem rdec_c (n : Nat) (w : World) (hn : n < 256) :
    Calls Tryz.prog 128 #[.int .i64 n] w fun e w' => e = .returned (.string (itoaT n)) ∧ Below w.heap.size w w' := by
  obtain ⟨i0, hi0, hz0, hz1, hz2⟩ := info_parts info_u8
  have HT := Lib.hid (decL_txt hn)
  rw [← HT.out]
  have hbase : (w.alloc (.cells #[] 5)).ownsRow w.heap.size 5 1 (.slice (some ⟨w.heap.size, 0, none⟩) 0 0) 0 [] := own_empty w _ _ (Nat.le_refl _)
  have hbel : Below w.heap.size w (w.alloc (.cells #[] 5)) := bl_
  have hs0 := hbel.size
  by_cases h100 : 100 ≤ n
  · have d1 : (100 : Int) ≤ n := by omega
    have d2 : (10 : Int) ≤ n := by omega
    have hL : decL n = [48 + (n : Int) / 100, 48 + (n : Int) / 10 % 10, 48 + (n : Int) % 10] := by
      unfold decL; rw [if_pos h100, if_pos (by omega)]; rfl
    rw [hL]
    clear hL
    go_enter Tryz.func128, Tryz.ntmps128
    go_upto_region 2 with (fail)
    have hown := hbase
    generalize w.alloc (.cells #[] 5) = w1 at *
    go_wp2_with (at_builtin; refine wpList_append_own _ rfl _ _ 166 rfl w.heap.size 5 i0 (.int .u8 0) 1 1 Tryz.underlying166 hi0 hz0 hz1 hz2 rfl (by decide) _ _ _ rfl (hown.alloc _) ⟨w1.heap.size, 0, none⟩ 1 1 [.int .u8 (48 + (n : Int) / 100)] rfl rfl ?z1_1 ?z1_2 ?z1_3 ?z1_4 ?z1_5 ?_)
    (try case z1_1 => exact cell_list _ _ _)
    (try case z1_2 => (first | exact one_cell_k _ _ | rfl | (intro u hu; simp at hu; (try rcases hu with rfl | rfl) <;> (try subst hu) <;> rfl)))
    case z1_3 => (first | (simp only [maxLen]; omega) | omega)
    (try case z1_4 => omega)
    (try case z1_5 => (first | omega | (simp; omega)))
    (try case z1_2 => (first | exact one_cell_k _ _ | rfl | (intro u hu; simp at hu; (try rcases hu with rfl | rfl) <;> (try subst hu) <;> rfl)))
    intro v' wa hown' hgrow _
    have hbel1 := below_own hbel hown (by first | exact Nat.le_refl _ | omega) hgrow
    replace hown : wa.ownsRow w.heap.size 5 1 v' 1 (bytesV [48 + (n : Int) / 100]) := hown'
    have hs1 := hbel1.size
    go_wp2_with (at_builtin; refine wpList_append_own _ rfl _ _ 166 rfl w.heap.size 5 i0 (.int .u8 0) 1 1 Tryz.underlying166 hi0 hz0 hz1 hz2 rfl (by decide) _ _ _ rfl (hown.alloc _) ⟨wa.heap.size, 0, none⟩ 1 1 [.int .u8 (48 + (n : Int) / 10 % 10)] rfl rfl ?z2_1 ?z2_2 ?z2_3 ?z2_4 ?z2_5 ?_)
    (try case z2_1 => exact cell_list _ _ _)
    (try case z2_2 => (first | exact one_cell_k _ _ | rfl | (intro u hu; simp at hu; (try rcases hu with rfl | rfl) <;> (try subst hu) <;> rfl)))
    case z2_3 => (first | (simp only [maxLen]; omega) | omega)
    (try case z2_4 => omega)
    (try case z2_5 => (first | omega | (simp; omega)))
    (try case z2_2 => (first | exact one_cell_k _ _ | rfl | (intro u hu; simp at hu; (try rcases hu with rfl | rfl) <;> (try subst hu) <;> rfl)))
    intro v' wa hown' hgrow _
    have hbel1 := below_own hbel1 hown (by first | exact Nat.le_refl _ | omega) hgrow
    replace hown : wa.ownsRow w.heap.size 5 1 v' 2 (bytesV [48 + (n : Int) / 100, 48 + (n : Int) / 10 % 10]) := hown'
    have hs1 := hbel1.size
    go_wp2_with (at_builtin; refine wpList_append_own _ rfl _ _ 166 rfl w.heap.size 5 i0 (.int .u8 0) 1 1 Tryz.underlying166 hi0 hz0 hz1 hz2 rfl (by decide) _ _ _ rfl (hown.alloc _) ⟨wa.heap.size, 0, none⟩ 1 1 [.int .u8 (48 + (n : Int) % 10)] rfl rfl ?z3_1 ?z3_2 ?z3_3 ?z3_4 ?z3_5 ?_)
    (try case z3_1 => exact cell_list _ _ _)
    (try case z3_2 => (first | exact one_cell_k _ _ | rfl | (intro u hu; simp at hu; (try rcases hu with rfl | rfl) <;> (try subst hu) <;> rfl)))
    case z3_3 => (first | (simp only [maxLen]; omega) | omega)
    (try case z3_4 => omega)
    (try case z3_5 => (first | omega | (simp; omega)))
    (try case z3_2 => (first | exact one_cell_k _ _ | rfl | (intro u hu; simp at hu; (try rcases hu with rfl | rfl) <;> (try subst hu) <;> rfl)))
    intro v' wa hown' hgrow _
    have hbel1 := below_own hbel1 hown (by first | exact Nat.le_refl _ | omega) hgrow
    have hconv := conv_own (l := [48 + (n : Int) / 100, 48 + (n : Int) / 10 % 10, 48 + (n : Int) % 10]) hown'
    go_wp2_with fail
    go_ret
    exact ⟨rfl, hbel1⟩
  · by_cases h10 : 10 ≤ n
    · have d1 : ¬ (100 : Int) ≤ n := by omega
      have d2 : (10 : Int) ≤ n := by omega
      have hL : decL n = [48 + (n : Int) / 10 % 10, 48 + (n : Int) % 10] := by
        unfold decL; rw [if_neg h100, if_pos (by omega)]; rfl
      rw [hL]
      clear hL
      go_enter Tryz.func128, Tryz.ntmps128
      go_upto_region 2 with (fail)
      have hown := hbase
      generalize w.alloc (.cells #[] 5) = w1 at *
      go_wp2_with (at_builtin; refine wpList_append_own _ rfl _ _ 166 rfl w.heap.size 5 i0 (.int .u8 0) 1 1 Tryz.underlying166 hi0 hz0 hz1 hz2 rfl (by decide) _ _ _ rfl (hown.alloc _) ⟨w1.heap.size, 0, none⟩ 1 1 [.int .u8 (48 + (n : Int) / 10 % 10)] rfl rfl ?z4_1 ?z4_2 ?z4_3 ?z4_4 ?z4_5 ?_)
      (try case z4_1 => exact cell_list _ _ _)
      (try case z4_2 => (first | exact one_cell_k _ _ | rfl | (intro u hu; simp at hu; (try rcases hu with rfl | rfl) <;> (try subst hu) <;> rfl)))
      case z4_3 => (first | (simp only [maxLen]; omega) | omega)
      (try case z4_4 => omega)
      (try case z4_5 => (first | omega | (simp; omega)))
      (try case z4_2 => (first | exact one_cell_k _ _ | rfl | (intro u hu; simp at hu; (try rcases hu with rfl | rfl) <;> (try subst hu) <;> rfl)))
      intro v' wa hown' hgrow _
      have hbel1 := below_own hbel hown (by first | exact Nat.le_refl _ | omega) hgrow
      replace hown : wa.ownsRow w.heap.size 5 1 v' 1 (bytesV [48 + (n : Int) / 10 % 10]) := hown'
      have hs1 := hbel1.size
      go_wp2_with (at_builtin; refine wpList_append_own _ rfl _ _ 166 rfl w.heap.size 5 i0 (.int .u8 0) 1 1 Tryz.underlying166 hi0 hz0 hz1 hz2 rfl (by decide) _ _ _ rfl (hown.alloc _) ⟨wa.heap.size, 0, none⟩ 1 1 [.int .u8 (48 + (n : Int) % 10)] rfl rfl ?z5_1 ?z5_2 ?z5_3 ?z5_4 ?z5_5 ?_)
      (try case z5_1 => exact cell_list _ _ _)
      (try case z5_2 => (first | exact one_cell_k _ _ | rfl | (intro u hu; simp at hu; (try rcases hu with rfl | rfl) <;> (try subst hu) <;> rfl)))
      case z5_3 => (first | (simp only [maxLen]; omega) | omega)
      (try case z5_4 => omega)
      (try case z5_5 => (first | omega | (simp; omega)))
      (try case z5_2 => (first | exact one_cell_k _ _ | rfl | (intro u hu; simp at hu; (try rcases hu with rfl | rfl) <;> (try subst hu) <;> rfl)))
      intro v' wa hown' hgrow _
      have hbel1 := below_own hbel1 hown (by first | exact Nat.le_refl _ | omega) hgrow
      have hconv := conv_own (l := [48 + (n : Int) / 10 % 10, 48 + (n : Int) % 10]) hown'
      go_wp2_with fail
      go_ret
      exact ⟨rfl, hbel1⟩
    · have d1 : ¬ (100 : Int) ≤ n := by omega
      have d2 : ¬ (10 : Int) ≤ n := by omega
      have hL : decL n = [48 + (n : Int) % 10] := by
        unfold decL; rw [if_neg h100, if_neg (by omega)]; rfl
      rw [hL]
      clear hL
      go_enter Tryz.func128, Tryz.ntmps128
      go_upto_region 2 with (fail)
      have hown := hbase
      generalize w.alloc (.cells #[] 5) = w1 at *
      go_wp2_with (at_builtin; refine wpList_append_own _ rfl _ _ 166 rfl w.heap.size 5 i0 (.int .u8 0) 1 1 Tryz.underlying166 hi0 hz0 hz1 hz2 rfl (by decide) _ _ _ rfl (hown.alloc _) ⟨w1.heap.size, 0, none⟩ 1 1 [.int .u8 (48 + (n : Int) % 10)] rfl rfl ?z6_1 ?z6_2 ?z6_3 ?z6_4 ?z6_5 ?_)
      (try case z6_1 => exact cell_list _ _ _)
      (try case z6_2 => (first | exact one_cell_k _ _ | rfl | (intro u hu; simp at hu; (try rcases hu with rfl | rfl) <;> (try subst hu) <;> rfl)))
      case z6_3 => (first | (simp only [maxLen]; omega) | omega)
      (try case z6_4 => omega)
      (try case z6_5 => (first | omega | (simp; omega)))
      (try case z6_2 => (first | exact one_cell_k _ _ | rfl | (intro u hu; simp at hu; (try rcases hu with rfl | rfl) <;> (try subst hu) <;> rfl)))
      intro v' wa hown' hgrow _
      have hbel1 := below_own hbel hown (by first | exact Nat.le_refl _ | omega) hgrow
      have hconv := conv_own (l := [48 + (n : Int) % 10]) hown'
      go_wp2_with fail
      go_ret
      exact ⟨rfl, hbel1⟩
end Go.Proofs.YtpfilldnfpcpkaaGreatDoor

namespace Go.Proofs.YtpfilldnfpcpkaaGreatDoor
open Go.RowKit

theorem one_bytes (l : List Int) : ∀ u ∈ bytesV l, u.oneCell' = true := by
  intro u hu
  simp only [bytesV, List.mem_map] at hu
  obtain ⟨n, _, rfl⟩ := hu
  rfl
/-- what is still to be printed behind i signs -/
def restH (i u : Nat) : List Nat := if i = 0 ∨ u ≠ 0 then (hexD u).map UInt8.toNat else []
theorem restH_step {i u : Nat} (h : i = 0 ∨ u ≠ 0) (hu : u < 65536) : restH i u = restH (i + 1) (u / 16) ++ [(hexC (u % 16)).toNat] := by
  unfold restH
  rw [if_pos h]
  by_cases h16 : 16 ≤ u
  · rw [if_pos (by omega), hexD_step h16 hu]; simp
  · rw [if_neg (by omega)]
    unfold hexD
    rw [if_pos (by omega), Nat.mod_eq_of_lt (by omega)]
    rfl
theorem hexC_lo {d : Nat} (h : d ≤ 9) : (hexC d).toNat = 48 + d := by
  unfold hexC; rw [if_pos h, UInt8.toNat_ofNat']; omega
theorem hexC_hi {d : Nat} (h : ¬ d ≤ 9) (h2 : d < 16) : (hexC d).toNat = 87 + d := by
  unfold hexC; rw [if_neg h, UInt8.toNat_ofNat']; omega
def LeftH (i u : Nat) : Prop := (i = 0 ∧ u < 65536) ∨ (i = 1 ∧ u < 4096) ∨ (i = 2 ∧ u < 256) ∨ (i = 3 ∧ u < 16) ∨ (i = 4 ∧ u = 0)
set_option maxRecDepth 100000 in
set_option maxHeartbeats 3200000 in
theorem rhex_c (n : Nat) (w : World) (hn : n < 65536) :
    Calls Tryz.prog 163 #[.int .i64 n] w fun e w' => e = .returned (.string (hexT n)) ∧ Below w.heap.size w w' := by
  obtain ⟨i0, hi0, hz0, hz1, hz2⟩ := info_parts info_u8
  have hT : strOfNums (ints ((hexD n).map UInt8.toNat)) = hexT n := by rw [txt_back]; rfl
  rw [← hT]
  have hr0 : (hexD n).map UInt8.toNat = restH 0 n := by unfold restH; rw [if_pos (.inl rfl)]
  rw [hr0]
  clear hT hr0
  obtain ⟨R, hR⟩ : ∃ R, R = restH 0 n := ⟨_, rfl⟩
  rw [← hR]
  have HR := Lib.hid hR
  clear hR
  go_enter Tryz.func163, Tryz.ntmps163
  go_wp2_with fail
  go_loopw [0, 3, 4] (fun vn b i wr => ∃ (k u g cap : Nat) (l : List Nat), i = .int .i64 k ∧ vn = .int .i64 u ∧ LeftH k u ∧ l.length = k ∧ R = restH k u ++ l ∧
      b = .slice (some ⟨g, 0, none⟩) k cap ∧ k ≤ cap ∧ w.heap.size ≤ g ∧ g < wr.heap.size ∧ (∀ j, j < k → wr.cell? ⟨g, j, none⟩ = some (.int .u8 ((ints l).getD j 0))) ∧ Below w.heap.size w wr) (fun _ _ i _ => 4 - (intOf i).toNat)
  case atStart =>
    exact ⟨0, n, _, _, [], rfl, rfl, .inl ⟨rfl, hn⟩, rfl, by rw [HR.out, List.append_nil], rfl, Nat.le_refl _, Nat.le_refl _, by simp, fun j hj => absurd hj (by omega), bl_⟩
  case round =>
    obtain ⟨k, u, g, cap, l, rfl, rfl, hle, hl, hrr, rfl, hkc, hg0, hg1, hcells, hbel⟩ := hrel
    have hk4 : k ≤ 4 ∧ u < 65536 := by unfold LeftH at hle; omega
    obtain ⟨hk4, hu6⟩ := hk4
    by_cases hgo : k < 4 ∧ (k = 0 ∨ u ≠ 0)
    · have hst := restH_step hgo.2 hu6
      have hpart : ((k : Int) == 0) = true ∨ (((k : Int) == 0) = false ∧ (0 : Int) < u) := by
        by_cases e : k = 0
        · exact .inl (by simpa using e)
        · exact .inr ⟨by simpa using e, by omega⟩
      have d1 : (k : Int) < 4 := by omega
      have hln : LeftH (k + 1) (u / 16) := by unfold LeftH at *; omega
      have hrn : R = restH (k + 1) (u / 16) ++ ((hexC (u % 16)).toNat :: l) := by rw [hrr, hst]; simp
      obtain ⟨d, hd⟩ : ∃ d, u % 16 = d := ⟨_, rfl⟩
      obtain ⟨q, hq⟩ : ∃ q, u / 16 = q := ⟨_, rfl⟩
      have hd16 : d < 16 := by omega
      have hdi : (u : Int) % 16 = d := by omega
      have hqi : (u : Int) / 16 = q := by omega
      rw [hd, hq] at hrn
      rw [hq] at hln
      have HRN := Lib.hid hrn
      have HLN := Lib.hid hln
      have HL := Lib.hid hl
      have HC := Lib.hid hcells
      have hkg := hgo.1
      have hsz := hbel.size
      clear hst hrr hrn hln hle hl hcells hgo hd hq
      have hch : (d ≤ 9 ∧ (hexC d).toNat = 48 + d) ∨ (¬ d ≤ 9 ∧ (hexC d).toNat = 87 + d) := by
        by_cases h9 : d ≤ 9
        · exact .inl ⟨h9, hexC_lo h9⟩
        · exact .inr ⟨h9, hexC_hi h9 hd16⟩
      have hbl : (bytesV (ints l)).length = k * 1 := by simp [bytesV, ints, HL.out]
      have HBL := Lib.hid hbl
      have hown : ∀ c : Int, (wr.alloc (.cells #[.int .u8 c] 5)).ownsRow w.heap.size 5 1 (.slice (some ⟨wr.heap.size, 0, none⟩) 1 1) 1 [.int .u8 c] := fun c =>
        own_laid wr [c] (by simp [maxLen]) w.heap.size hsz
      have hcc : ∀ (c : Int) j u, (bytesV (ints l))[j]? = some u → (wr.alloc (.cells #[.int .u8 c] 5)).cell? ((⟨g, 0, none⟩ : Addr).add j) = some u := by
        intro c j u hu
        have hj : j < (ints l).length := by
          rcases Nat.lt_or_ge j (ints l).length with e | e
          · exact e
          · rw [List.getElem?_eq_none (by simpa [bytesV] using e)] at hu; cases hu
        rw [get_bytes hj] at hu
        cases hu
        have ea : (⟨g, 0, none⟩ : Addr).add j = ⟨g, j, none⟩ := by unfold Addr.add; split <;> simp_all
        rw [ea, World.cell?_of_block (Below.heap_alloc _ _ g hg1)]
        exact HC.out j (by rw [← HL.out, ← ints_len]; exact hj)
      have HC3 := Lib.hid hcc
      have HOWN := Lib.hid hown
      clear hcc hown hbl
      rcases hch with ⟨h9, hc⟩ | ⟨h9, hc⟩
      · have d9 : ¬ (9 : Int) < d := by omega
        have HCC := Lib.hid hc
        clear hc
        rcases hpart with p1 | ⟨p1, p2⟩
        all_goals
          go_wp2_with (at_builtin; refine wpList_append_own _ rfl _ _ 166 rfl w.heap.size 5 i0 (.int .u8 0) 1 1 Tryz.underlying166 hi0 hz0 hz1 hz2 rfl (by decide) _ _ _ rfl (HOWN.out (48 + (d : Int))) ⟨g, 0, none⟩ k cap (bytesV (ints l)) rfl HBL.out (HC3.out _) (one_bytes _) (by simp only [maxLen]; omega) (by omega) (by rw [size_alloc']; omega) ?_)
          intro v' w2 hown3 hgrow _
          have hbel3 : Below w.heap.size w w2 := (bl_alloc hbel (.cells #[.int .u8 (48 + (d : Int))] 5)).grown hgrow (by rw [size_alloc']; omega) fun b hb => ((HOWN.out (48 + (d : Int))).lt b hb).1
          have hxs : Value.int .u8 (48 + (d : Int)) :: bytesV (ints l) = bytesV (ints ((48 + d) :: l)) := by simp [bytesV, ints]
          rw [hxs] at hown3
          obtain ⟨g3, cap3, rfl, hg2, hg3, hg5, hg4, hg6⟩ := own_form hown3 (by omega : 0 < 1 + k)
          have HG4 := Lib.hid hg4
          clear hg4 hg6 hown3 hgrow hxs
          rw [Nat.add_comm 1 k] at *
          go_wp2_with fail
          go_roundw
          case rel =>
            refine ⟨k + 1, q, g3, cap3, (48 + d) :: l, by go_num, by first | rfl | go_num, HLN.out, by simp [HL.out], by rw [HRN.out, HCC.out], rfl, by omega, by omega, by omega, fun j hj => HG4.out j _ (get_bytes (by rw [ints_len, List.length_cons, HL.out]; exact hj)), hbel3⟩
          case measure => simp [intOf]; omega
      · have d9 : (9 : Int) < d := by omega
        have HCC := Lib.hid hc
        clear hc
        rcases hpart with p1 | ⟨p1, p2⟩
        all_goals
          go_wp2_with (at_builtin; refine wpList_append_own _ rfl _ _ 166 rfl w.heap.size 5 i0 (.int .u8 0) 1 1 Tryz.underlying166 hi0 hz0 hz1 hz2 rfl (by decide) _ _ _ rfl (HOWN.out (87 + (d : Int))) ⟨g, 0, none⟩ k cap (bytesV (ints l)) rfl HBL.out (HC3.out _) (one_bytes _) (by simp only [maxLen]; omega) (by omega) (by rw [size_alloc']; omega) ?_)
          intro v' w2 hown3 hgrow _
          have hbel3 : Below w.heap.size w w2 := (bl_alloc hbel (.cells #[.int .u8 (87 + (d : Int))] 5)).grown hgrow (by rw [size_alloc']; omega) fun b hb => ((HOWN.out (87 + (d : Int))).lt b hb).1
          have hxs : Value.int .u8 (87 + (d : Int)) :: bytesV (ints l) = bytesV (ints ((87 + d) :: l)) := by simp [bytesV, ints]
          rw [hxs] at hown3
          obtain ⟨g3, cap3, rfl, hg2, hg3, hg5, hg4, hg6⟩ := own_form hown3 (by omega : 0 < 1 + k)
          have HG4 := Lib.hid hg4
          clear hg4 hg6 hown3 hgrow hxs
          rw [Nat.add_comm 1 k] at *
          go_wp2_with fail
          go_roundw
          case rel =>
            refine ⟨k + 1, q, g3, cap3, (87 + d) :: l, by go_num, by first | rfl | go_num, HLN.out, by simp [HL.out], by rw [HRN.out, HCC.out], rfl, by omega, by omega, by omega, fun j hj => HG4.out j _ (get_bytes (by rw [ints_len, List.length_cons, HL.out]; exact hj)), hbel3⟩
          case measure => simp [intOf]; omega
    · have hrest : restH k u = [] := by
        unfold restH
        rw [if_neg]
        unfold LeftH at hle
        omega
      have hRl : R = l := by rw [hrr, hrest]; rfl
      have hconv : (convert 166 9 (.slice (some ⟨g, 0, none⟩) k cap)).run Tryz.prog wr = .ok (.string (strOfNums (ints R))) wr :=
        run_convert_bytes_arg wr _ _ Tryz.underlying166 Tryz.underlying5 g 0 k cap (ints R) (by rw [ints_len, hRl, hl]) (fun i hi => by rw [Nat.zero_add, hRl]; exact hcells i hi) _ Tryz.underlying9
      have hpart : ¬ (k : Int) < 4 ∨ ((k : Int) < 4 ∧ ((k : Int) == 0) = false ∧ ¬ (0 : Int) < u) := by
        by_cases e : k < 4
        · exact .inr ⟨by omega, by simp; omega, by omega⟩
        · exact .inl (by omega)
      clear hrest hRl hrr hl hle hcells hgo
      rcases hpart with p1 | ⟨p1, p2, p3⟩
      all_goals
        go_wp2_with fail
        go_ret
        exact ⟨rfl, hbel⟩
end Go.Proofs.YtpfilldnfpcpkaaGreatDoor

namespace Go.Proofs.YtpfilldnfpcpkaaGreatDoor
open Go.RowKit

def i64V (l : List Nat) : List Value := l.map fun n => Value.int .i64 (n : Nat)
theorem i64V_at {l : List Nat} {j x : Nat} (h : l[j]? = some x) : (i64V l)[j]? = some (.int .i64 (x : Nat)) := by simp [i64V, h]
theorem i64V_snoc (l : List Nat) (x : Nat) : i64V (l ++ [x]) = i64V l ++ [.int .i64 (x : Nat)] := by simp [i64V]
theorem grp_pair {n t : Nat} (ht : t < 8) : (grps n)[t]? = some (256 * (n / 256 ^ (15 - 2 * t) % 256) + n / 256 ^ (15 - (2 * t + 1)) % 256) := by
  rw [grps_at ht]
  congr 1
  have e1 : 65536 ^ (7 - t) = 256 ^ (15 - (2 * t + 1)) := by
    rw [show 15 - (2 * t + 1) = 2 * (7 - t) by omega, Nat.pow_mul]
  have e2 : 256 ^ (15 - 2 * t) = 256 ^ (15 - (2 * t + 1)) * 256 := by
    rw [show 15 - 2 * t = 15 - (2 * t + 1) + 1 by omega, Nat.pow_succ]
  rw [e1, e2, ← Nat.div_div_eq_div_mul]
  generalize n / 256 ^ (15 - (2 * t + 1)) = X
  omega
/-- the last sign of a text -/
theorem last_sign {s : ByteArray} {c : UInt8} {j : Nat} (hj : s.size = j + 1) (h : (bts s).getLast? = some c) : (s[j]'(by omega)).toNat = c.toNat := by
  have hl : (bts s).length = j + 1 := by simpa [bts] using hj
  rw [List.getLast?_eq_getElem?, hl, Nat.add_sub_cancel] at h
  obtain ⟨h1, h2⟩ := List.getElem?_eq_some_iff.1 h
  rw [← h2]; rfl
theorem joinH_len (L : List Nat) : (joinH L).length ≤ L.length * 5 := by
  have := join_len (c := [58]) (m := 4) (l := L.map hexD) (fun p hp => by
    obtain ⟨x, _, rfl⟩ := List.mem_map.1 hp
    exact hexD_len x)
  rw [List.length_map] at this
  exact this
theorem preT_len {G : List Nat} {f m i : Nat} (hl : G.length = 8) : (preT G f m i).length ≤ 100 := by
  unfold preT
  split
  · have := joinH_len (G.take i)
    have h : (G.take i).length ≤ 8 := by simp; omega
    omega
  · have h1 := joinH_len (G.take f)
    have h2 := joinH_len ((G.take i).drop (f + m))
    have h3 : (G.take f).length ≤ 8 := by simp; omega
    have h4 : ((G.take i).drop (f + m)).length ≤ 8 := by simp; omega
    rw [List.length_append, List.length_cons, List.length_cons]
    omega
theorem byte_cell {n j : Nat} (hj : j < 16) : (bytesV (ints (bytesB 16 n)))[j]? = some (.int .u8 ((n / 256 ^ (15 - j) % 256 : Nat) : Int)) := by
  have h := bytesB_at (k := 16) (n := n) hj
  simp only [bytesV, ints, List.getElem?_map, h, Option.map_some]
  rfl
set_option maxRecDepth 100000 in
set_option maxHeartbeats 3200000 in
theorem rprint6_c (n : Nat) (w : World) (hn : n < 340282366920938463463374607431768211456) :
    Calls Tryz.prog 127 #[AddrV true n] w fun e w' => e = .returned (.string ⟨(preT (grps n) (refRow (zeros (grps n))).1 (refRow (zeros (grps n))).2 8).toArray⟩) ∧ Below w.heap.size w w' := by
  have HR := Lib.hid (fun w => rright_c true n w hn)
  have hrt : rightB true n = true := decide_eq_true hn
  rw [hrt] at HR
  have HB := Lib.hid (fun w => rbytes_c true n w hn)
  obtain ⟨i0, hi0, hz0, hz1, hz2⟩ := info_parts info_int
  clear hrt
  simp only [AddrV_eq, AddrC] at *
  go_enter Tryz.func127, Tryz.ntmps127
  go_wp2_with fail
  have hA : Blk (w.alloc (Obj.cells #[.bool true, .int .u64 (hi n), .int .u64 (lo n)] 26)) (w.heap.size) 26 (AddrC true n) := (Blk.new' _ _ _ _ (by simp) : Blk (w.alloc (Obj.cells #[.bool true, .int .u64 (hi n), .int .u64 (lo n)] 26)) (w.heap.size) 26 (AddrC true n))
  have hbel : Below w.heap.size w (w.alloc (Obj.cells #[.bool true, .int .u64 (hi n), .int .u64 (lo n)] 26)) := bl_
  have hsz : (w.alloc (Obj.cells #[.bool true, .int .u64 (hi n), .int .u64 (lo n)] 26)).heap.size = w.heap.size + 1 := by simp
  generalize w.alloc (Obj.cells #[.bool true, .int .u64 (hi n), .int .u64 (lo n)] 26) = w0 at *
  with_reducible refine (HR.out _).mono ?_
  rintro e w1 ⟨rfl, hb⟩
  (try clear a0 a1 a2 az0 az1 az2 az3)
  replace hA := hA.after hb
  obtain ⟨a0, a1, a2, _⟩ := blk_adr hA
  have az0 := hA.frozen 0
  have az1 := hA.frozen 1
  have az2 := hA.frozen 2
  (try clear al al1 al2)
  have al := hA.lt
  have al1 := Nat.lt_succ_of_lt al
  have al2 := Nat.lt_succ_of_lt al1
  try simp only [Nat.succ_eq_add_one] at al1 al2
  replace hbel := bl_trans hbel hb
  clear hb
  go_wp2_with fail
  with_reducible refine (HB.out _).mono ?_
  rintro e w2 ⟨vb, rfl, hownb, hb⟩
  obtain ⟨gb, cb, rfl, _, q2, q3, q4, _⟩ := own_form hownb (by decide : 0 < byteN true)
  have hcb : 16 ≤ cb := q3
  have hx : ∀ j, j < 16 → w2.cell? ⟨gb, j, none⟩ = some (.int .u8 ((n / 256 ^ (15 - j) % 256 : Nat) : Int)) := fun j hj => q4 j _ (byte_cell hj)
  have HX := Lib.hid hx
  replace hA := hA.after hb
  replace hbel := bl_trans hbel hb
  clear hx q4 q3 hb hownb a0 a1 a2 az0 az1 az2
  have hlA := hA.lt
  obtain ⟨a0, a1, a2, _⟩ := blk_adr hA
  have az0 := hA.frozen 0
  have az1 := hA.frozen 1
  have az2 := hA.frozen 2
  have hb16 : byteN true = 16 := rfl
  rw [hb16]
  go_wp2_with fail
  have hown : (w2.alloc (.cells #[] 3)).ownsRow w2.heap.size 3 1 (.slice (some ⟨w2.heap.size, 0, none⟩) 0 0) 0 [] := own_empty w2 _ _ (Nat.le_refl _)
  have hbx : Below w2.heap.size w2 (w2.alloc (.cells #[] 3)) := bl_
  generalize w2.alloc (.cells #[] 3) = w3 at *
  clear hA hlA a0 a1 a2 az0 az1 az2
  go_loopw [4, 5] (fun vg vi wr => ∃ t k2 : Nat, t ≤ 8 ∧ k2 = 2 * t ∧ vi = .int .i64 (k2 : Nat) ∧ wr.ownsRow w2.heap.size 3 1 vg t (i64V ((grps n).take t)) ∧ Below w2.heap.size w2 wr) (fun _ i _ => 16 - (intOf i).toNat)
  case atStart => exact ⟨0, 0, by omega, rfl, rfl, hown, hbx⟩
  case round =>
    clear hown hbx
    obtain ⟨t, k2, ht, hk2, rfl, hown, hbx⟩ := hrel
    have hz := hbx.size
    by_cases hlt : t < 8
    · have d1 : (k2 : Int) < 16 := by omega
      have hk16 : k2 < 15 := by omega
      have x0 := (hbx.cell (p := ⟨gb, k2, none⟩) q2).trans (HX.out k2 (by omega))
      have x1 := (hbx.cell (p := ⟨gb, k2 + 1, none⟩) q2).trans (HX.out (k2 + 1) (by omega))
      have hgp := grp_pair (n := n) hlt
      rw [← hk2] at hgp
      have hp : n / 256 ^ (15 - k2) % 256 < 256 := Nat.mod_lt _ (by omega)
      have hq : n / 256 ^ (15 - (k2 + 1)) % 256 < 256 := Nat.mod_lt _ (by omega)
      have z0 := HX.out k2 (by omega)
      have z1 := HX.out (k2 + 1) (by omega)
      generalize n / 256 ^ (15 - k2) % 256 = p at *
      generalize n / 256 ^ (15 - (k2 + 1)) % 256 = q at *
      have hG : i64V ((grps n).take (t + 1)) = i64V ((grps n).take t) ++ [.int .i64 (256 * (p : Int) + q)] := by
        obtain ⟨h1, h2⟩ := List.getElem?_eq_some_iff.1 hgp
        rw [List.take_succ_eq_append_getElem h1, h2, i64V_snoc]
        simp
      have HG := Lib.hid hG
      have HK2 := Lib.hid hk2
      clear hG hgp hk2
      go_wp2_with fail
      have hownd : wr.drew.ownsRow w2.heap.size 3 1 u4 t (i64V ((grps n).take t)) := hown
      have hbd : Below w2.heap.size w2 wr.drew := bl_drew hbx
      have hzd : w2.heap.size ≤ wr.drew.heap.size := hz
      have hks : ∀ w', Below w2.heap.size w2 w' → (w'.cell? ⟨gb, k2, none⟩ = some (.int .u8 (p : Nat)) ∧ w'.cell? ⟨gb, k2 + 1, none⟩ = some (.int .u8 (q : Nat))) ∧ Below w2.heap.size w2 w' := fun w' h =>
        ⟨⟨(h.cell (p := ⟨gb, k2, none⟩) q2).trans z0, (h.cell (p := ⟨gb, k2 + 1, none⟩) q2).trans z1⟩, h⟩
      have HKS := Lib.hid hks
      have hw1 : IntKind.i64.wrap ((k2 : Int) + 1) = (k2 : Int) + 1 := IntWalk.i64_in _ (by omega)
      have hwp : IntKind.i64.wrap (p : Int) = p := IntWalk.i64_in _ (by omega)
      have hwq : IntKind.i64.wrap (q : Int) = q := IntWalk.i64_in _ (by omega)
      have hw2 : IntKind.i64.wrap (256 * (p : Int)) = 256 * (p : Int) := IntWalk.i64_in _ (by omega)
      have hw3 : IntKind.i64.wrap (256 * (p : Int) + q) = 256 * (p : Int) + q := IntWalk.i64_in _ (by omega)
      have hk0 : (0 : Int) ≤ (k2 : Int) + 1 := by omega
      have hk1 : (k2 : Int) + 1 < 16 := by omega
      have hk2' : ((k2 : Int) + 1).toNat = k2 + 1 := by omega
      clear hown hbx x0 x1 hks z0 z1
      refine wp_region_held_drew (S := fun w' => (w'.cell? ⟨gb, k2, none⟩ = some (.int .u8 (p : Nat)) ∧ w'.cell? ⟨gb, k2 + 1, none⟩ = some (.int .u8 (q : Nat))) ∧ Below w2.heap.size w2 w') (by kernel_rfl) ?_ (fun hHeld => ?_)
      · (first | exact HKS.out _ hbd | exact HKS.out _ (bl_alloc hbd _) | exact HKS.out _ (below_own hbd hownd (Nat.le_refl _) hgrow))
      refine take_q (i := 0) (v := ?_) rfl (by kernel_rfl) (by kernel_rfl) (by kernel_rfl) (fun _ _ _ h => h) (Or.inl ⟨by rfl, ?_⟩) (by assumption) ?_
      rotate_left
      · intro w hSw; (try dsimp only at hSw); go_simp; (try simp only [HDEC.out]); (try simp only [HDEC2.out]); try with_reducible rfl
      try simp only [Act.put, List.setIfInBounds_toArray, List.set_cons_zero, List.set_cons_succ]
      refine take_q (i := 1) (v := ?_) rfl (by kernel_rfl) (by kernel_rfl) (by kernel_rfl) (fun _ _ _ h => h) (Or.inl ⟨by rfl, ?_⟩) (by assumption) ?_
      rotate_left
      · intro w hSw; (try dsimp only at hSw); go_simp; (try simp only [HDEC.out]); (try simp only [HDEC2.out]); try with_reducible rfl
      try simp only [Act.put, List.setIfInBounds_toArray, List.set_cons_zero, List.set_cons_succ]
      refine take_q (i := 2) (v := ?_) rfl (by kernel_rfl) (by kernel_rfl) (by kernel_rfl) (fun _ _ _ h => h) (Or.inl ⟨by rfl, ?_⟩) (by assumption) ?_
      rotate_left
      · intro w hSw; (try dsimp only at hSw); go_simp; (try simp only [HDEC.out]); (try simp only [HDEC2.out]); try with_reducible rfl
      try simp only [Act.put, List.setIfInBounds_toArray, List.set_cons_zero, List.set_cons_succ]
      refine take_q (i := 3) (v := ?_) rfl (by kernel_rfl) (by kernel_rfl) (by kernel_rfl) (fun _ _ _ h => h) (Or.inl ⟨by rfl, ?_⟩) (by assumption) ?_
      rotate_left
      · intro w hSw; (try dsimp only at hSw); go_simp; (try simp only [HDEC.out]); (try simp only [HDEC2.out]); try with_reducible rfl
      try simp only [Act.put, List.setIfInBounds_toArray, List.set_cons_zero, List.set_cons_succ]
      refine take_q (i := 4) (v := ?_) rfl (by kernel_rfl) (by kernel_rfl) (by kernel_rfl) (fun _ _ _ h => h) (Or.inl ⟨by rfl, ?_⟩) (by assumption) ?_
      rotate_left
      · intro w hSw; (try dsimp only at hSw); go_simp; (try simp only [HDEC.out]); (try simp only [HDEC2.out]); try with_reducible rfl
      try simp only [Act.put, List.setIfInBounds_toArray, List.set_cons_zero, List.set_cons_succ]
      refine take_q (i := 5) (v := ?_) rfl (by kernel_rfl) (by kernel_rfl) (by kernel_rfl) (fun _ _ _ h => h) (Or.inl ⟨by rfl, ?_⟩) (by assumption) ?_
      rotate_left
      · intro w hSw; (try dsimp only at hSw); go_simp; (try simp only [HDEC.out]); (try simp only [HDEC2.out]); try with_reducible rfl
      try simp only [Act.put, List.setIfInBounds_toArray, List.set_cons_zero, List.set_cons_succ]
      refine take_q (i := 6) (v := ?_) rfl (by kernel_rfl) (by kernel_rfl) (by kernel_rfl) (fun _ _ _ h => h) (Or.inl ⟨by rfl, ?_⟩) (by assumption) ?_
      rotate_left
      · intro w hSw; (try dsimp only at hSw); go_simp; (try simp only [HDEC.out]); (try simp only [HDEC2.out]); try with_reducible rfl
      try simp only [Act.put, List.setIfInBounds_toArray, List.set_cons_zero, List.set_cons_succ]
      refine take_q (i := 7) (v := ?_) rfl (by kernel_rfl) (by kernel_rfl) (by kernel_rfl) (fun _ _ _ h => h) (Or.inl ⟨by rfl, ?_⟩) (by assumption) ?_
      rotate_left
      · intro w hSw; (try dsimp only at hSw); go_simp; (try simp only [HDEC.out]); (try simp only [HDEC2.out]); try with_reducible rfl
      try simp only [Act.put, List.setIfInBounds_toArray, List.set_cons_zero, List.set_cons_succ]
      refine take_q (i := 8) (v := ?_) rfl (by kernel_rfl) (by kernel_rfl) (by kernel_rfl) (fun _ _ _ h => h) (Or.inl ⟨by rfl, ?_⟩) (by assumption) ?_
      rotate_left
      · intro w hSw; (try dsimp only at hSw); go_simp; (try simp only [HDEC.out]); (try simp only [HDEC2.out]); try with_reducible rfl
      try simp only [Act.put, List.setIfInBounds_toArray, List.set_cons_zero, List.set_cons_succ]
      refine take_q (i := 9) (v := ?_) rfl (by kernel_rfl) (by kernel_rfl) (by kernel_rfl) (fun _ _ _ h => h) (Or.inl ⟨by rfl, ?_⟩) (by assumption) ?_
      rotate_left
      · intro w hSw; (try dsimp only at hSw); go_simp; (try simp only [HDEC.out]); (try simp only [HDEC2.out]); try with_reducible rfl
      try simp only [Act.put, List.setIfInBounds_toArray, List.set_cons_zero, List.set_cons_succ]
      refine take_q (i := 10) (v := ?_) rfl (by kernel_rfl) (by kernel_rfl) (by kernel_rfl) (fun _ _ _ h => h) (Or.inl ⟨by rfl, ?_⟩) (by assumption) ?_
      rotate_left
      · intro w hSw; (try dsimp only at hSw); go_simp; (try simp only [HDEC.out]); (try simp only [HDEC2.out]); try with_reducible rfl
      try simp only [Act.put, List.setIfInBounds_toArray, List.set_cons_zero, List.set_cons_succ]
      refine take_q (i := 11) (v := ?_) rfl (by kernel_rfl) (by kernel_rfl) (by kernel_rfl) (fun _ _ _ h => h) (Or.inl ⟨by rfl, ?_⟩) (by assumption) ?_
      rotate_left
      · intro w hSw; (try dsimp only at hSw); go_simp; (try simp only [HDEC.out]); (try simp only [HDEC2.out]); try with_reducible rfl
      try simp only [Act.put, List.setIfInBounds_toArray, List.set_cons_zero, List.set_cons_succ]
      refine take_q (i := 12) (v := ?_) rfl (by kernel_rfl) (by kernel_rfl) (by kernel_rfl) (fun _ _ _ h => h) (Or.inl ⟨by rfl, ?_⟩) (by assumption) ?_
      rotate_left
      · intro w hSw; (try dsimp only at hSw); go_simp; (try simp only [HDEC.out]); (try simp only [HDEC2.out]); try with_reducible rfl
      try simp only [Act.put, List.setIfInBounds_toArray, List.set_cons_zero, List.set_cons_succ]
      refine take_q (i := 13) (v := ?_) rfl (by kernel_rfl) (by kernel_rfl) (by kernel_rfl) (fun _ _ _ h => h) (Or.inl ⟨by rfl, ?_⟩) (by assumption) ?_
      rotate_left
      · intro w hSw; (try dsimp only at hSw); go_simp; (try simp only [HDEC.out]); (try simp only [HDEC2.out]); try with_reducible rfl
      try simp only [Act.put, List.setIfInBounds_toArray, List.set_cons_zero, List.set_cons_succ]
      refine wpAnyH_ready (rs := [14]) (by kernel_rfl) (by simp) ?_
      refine cons_q rfl (fun K hK => ?_) AllReadyH.nil
      go_simp
      refine hK.out _ _ ?_ (fun hHeld => ?_)
      · (first | exact HKS.out _ hbd | exact HKS.out _ (bl_alloc hbd _) | exact HKS.out _ (below_own hbd hownd (Nat.le_refl _) hgrow))
      clear hK K
      try simp only [Act.put, List.setIfInBounds_toArray, List.set_cons_zero, List.set_cons_succ]
      refine wpAnyH_ready (rs := [15]) (by kernel_rfl) (by simp) ?_
      refine cons_q rfl (fun K hK => ?_) AllReadyH.nil
      refine step_append_lies _ (by rfl) _ _ _ (by rfl) w2.heap.size 3 i0 (.int .i64 0) 1 8 Tryz.underlying52 hi0 hz0 hz1 hz2 (by rfl) (by decide) _ t _ (by rfl) (hownd.alloc _) ⟨wr.drew.heap.size, 0, none⟩ 1 1 [.int .i64 (256 * (p : Int) + q)] (by rfl) (by rfl) (cell_list wr [.int .i64 (256 * (p : Int) + q)] _) (one_cell_k _ _) (by omega) (by simp only [maxLen]; omega) (by omega) (by simp; omega) _ rfl ?_; intro g cap w1 hown' hgrow hat hlt
      refine hK.out _ _ ?_ (fun hHeld => ?_)
      · (first | exact HKS.out _ hbd | exact HKS.out _ (bl_alloc hbd _) | exact HKS.out _ (below_own hbd hownd (Nat.le_refl _) hgrow))
      clear hK K
      try simp only [Act.put, List.setIfInBounds_toArray, List.set_cons_zero, List.set_cons_succ]
      refine take_q (i := 16) (v := ?_) rfl (by kernel_rfl) (by kernel_rfl) (by kernel_rfl) (fun _ _ _ h => h) (Or.inl ⟨by rfl, ?_⟩) (by assumption) ?_
      rotate_left
      · intro w hSw; (try dsimp only at hSw); go_simp; (try simp only [HDEC.out]); (try simp only [HDEC2.out]); try with_reducible rfl
      try simp only [Act.put, List.setIfInBounds_toArray, List.set_cons_zero, List.set_cons_succ]
      refine wpAnyH_done (by kernel_rfl) ?_ _
      go_wp2_with fail
      go_roundw
      case rel => exact ⟨t + 1, k2 + 2, by omega, by have := HK2.out; omega, by go_num, by rw [HG.out]; exact hown', hHeld.2⟩
      case measure => simp [intOf]; omega
    · obtain rfl : t = 8 := by omega
      have d1 : ¬ (k2 : Int) < 16 := by omega
      rw [List.take_of_length_le (by rw [grps_len]; exact Nat.le_refl _)] at hown
      obtain ⟨gg, cg, rfl, _, r2, r3, r4, _⟩ := own_form hown (by omega : 0 < 8)
      have hg : ∀ (j x : Nat), (grps n)[j]? = some x → wr.cell? ⟨gg, j, none⟩ = some (.int .i64 (x : Nat)) := fun j x h => r4 j _ (i64V_at h)
      have HGC := Lib.hid hg
      have HGL := Lib.hid (grps_len n)
      have HG6 := Lib.hid (fun g (h : g ∈ grps n) => grps_lt h)
      have hbw := bl_trans hbel hbx
      clear hg r4 hown hbx hbel hk2 HX HB HR
      obtain ⟨G, hGE⟩ : ∃ G, grps n = G := ⟨_, rfl⟩
      rw [hGE] at HGC HGL HG6
      have HGE := Lib.hid hGE
      clear hGE
      have hzl : (zeros G).length = 8 := by rw [zeros_len, HGL.out]
      have HZL := Lib.hid hzl
      clear hzl
      go_wp2_with fail
      go_loopw [6, 7, 8] (fun vf vm vi ws => ∃ i : Nat, i ≤ 8 ∧ vi = .int .i64 i ∧ vf = .int .i64 ((refAt (zeros G) i).1 : Nat) ∧ vm = .int .i64 ((refAt (zeros G) i).2 : Nat) ∧ Below wr.heap.size wr ws) (fun _ _ i _ => 8 - (intOf i).toNat)
      case atStart => exact ⟨0, by omega, rfl, rfl, rfl, Below.refl _ _⟩
      case round =>
        obtain ⟨i, hi, rfl, rfl, rfl, hbs⟩ := hrel
        by_cases hlt : i < 8
        · have d1 : (i : Int) < 8 := by omega
          go_wp2_with fail
          go_loopw [9] (fun vn ws => ∃ d : Nat, i + d ≤ 8 ∧ vn = .int .i64 d ∧ (∀ j, i ≤ j → j < i + d → (zeros G)[j]? = some true) ∧ Below wr.heap.size wr ws) (fun k _ => 8 - (intOf k).toNat)
          case atStart => exact ⟨0, by omega, rfl, fun j a b => absurd b (by omega), Below.refl _ _⟩
          case round =>
            obtain ⟨d, hd, rfl, hall, hbt⟩ := hrel
            have HALL := Lib.hid hall
            clear hall
            have key : (i + d < 8 ∧ (zeros G)[i + d]? = some true) ∨ (runAt ((zeros G).drop i) = d) := by
              by_cases h8 : i + d < 8
              · by_cases hz : (zeros G)[i + d]? = some true
                · exact .inl ⟨h8, hz⟩
                · exact .inr (runAt_is d i (fun j a b => HALL.out j a b) hz)
              · refine .inr (runAt_is d i (fun j a b => HALL.out j a b) ?_)
                rw [List.getElem?_eq_none (by rw [HZL.out]; omega)]
                simp
            have hrd : ∀ h : i + d < 8, ∃ x, G[i + d]? = some x ∧ x < 65536 := fun h => ⟨_, List.getElem?_eq_getElem (by rw [HGL.out]; exact h), HG6.out _ (List.getElem_mem _)⟩
            have HRD := Lib.hid hrd
            clear hrd
            rcases key with ⟨h8, hz⟩ | hrun
            · have d2 : (i : Int) + d < 8 := by omega
              obtain ⟨x, hx, hx6⟩ := HRD.out h8
              have hxz : x = 0 := by
                rw [zeros_at hx] at hz
                simpa using hz
              subst hxz
              have c0 := (hbt.cell (p := ⟨gg, i + d, none⟩) (Nat.lt_of_lt_of_le r2 hbs.size)).trans ((hbs.cell (p := ⟨gg, i + d, none⟩) r2).trans (HGC.out _ _ hx))
              have HNEXT : Hid (∀ j, i ≤ j → j < i + (d + 1) → (zeros G)[j]? = some true) := Lib.hid (fun j a b => by
                by_cases e : j = i + d
                · subst e; exact hz
                · exact HALL.out j a (by omega))
              clear hz hx
              go_wp2_with fail
              go_roundw
              case rel => exact ⟨d + 1, by omega, by go_num, HNEXT.out, bl_⟩
              case measure => simp [intOf]; omega
            · have HEX : Hid (i + d = 8 ∨ (i + d < 8 ∧ ∃ x, G[i + d]? = some x ∧ x < 65536 ∧ x ≠ 0)) := Lib.hid (by
                by_cases h8 : i + d < 8
                · obtain ⟨x, hx, hx6⟩ := HRD.out h8
                  exact .inr ⟨h8, x, hx, hx6, run_exit (k := i + d) (by rw [hrun]; omega) (by omega) HALL.out hx⟩
                · exact .inl (by omega))
              have hst : refAt (zeros G) (i + 1) = if (refAt (zeros G) i).2 < d then (i, d) else refAt (zeros G) i := by
                rw [refAt_succ]
                unfold stepRef
                rw [hrun]
              obtain ⟨hb1, hb2⟩ := refAt_bd (z := zeros G) HZL.out i (by omega)
              generalize refAt (zeros G) i = p at *
              obtain ⟨f, m⟩ := p
              simp only at hb1 hb2 hst
              have hc : ((m : Int) < d ∧ (refAt (zeros G) (i + 1)).1 = i ∧ (refAt (zeros G) (i + 1)).2 = d) ∨ (¬ (m : Int) < d ∧ (refAt (zeros G) (i + 1)).1 = f ∧ (refAt (zeros G) (i + 1)).2 = m) := by
                rw [hst]
                by_cases q1 : m < d
                · rw [if_pos q1]; exact .inl ⟨by omega, rfl, rfl⟩
                · rw [if_neg q1]; exact .inr ⟨by omega, rfl, rfl⟩
              clear hst hrun HALL HRD
              have hbn : Below wr.heap.size wr wr := Below.refl _ _
              rcases HEX.out with h8 | ⟨h8, x, hx, hx6, hx0⟩
              · have d2 : ¬ (i : Int) + d < 8 := by omega
                rcases hc with ⟨d3, e1, e2⟩ | ⟨d3, e1, e2⟩
                all_goals
                  have E1 := Lib.hid e1
                  have E2 := Lib.hid e2
                  have H8 := Lib.hid h8
                  have hbq := hbs.trans (hbt.mono hbs.size)
                  clear e1 e2 HEX h8
                  go_wp2_with fail
                  go_roundw
                  case rel => exact ⟨i + 1, by omega, by go_num, by first | (rw [E1.out]; done) | (rw [E1.out]; rfl), by first | (rw [E2.out]; done) | (rw [E2.out]; rfl), hbq⟩
                  case measure => simp [intOf]; omega
              · have d2 : (i : Int) + d < 8 := by omega
                have c0 := (hbt.cell (p := ⟨gg, i + d, none⟩) (Nat.lt_of_lt_of_le r2 hbs.size)).trans ((hbs.cell (p := ⟨gg, i + d, none⟩) r2).trans (HGC.out _ _ hx))
                have d5 : ((x : Int) == 0) = false := by simp; omega
                clear hx HEX
                rcases hc with ⟨d3, e1, e2⟩ | ⟨d3, e1, e2⟩
                all_goals
                  have E1 := Lib.hid e1
                  have E2 := Lib.hid e2
                  have hbq := hbs.trans (hbt.mono hbs.size)
                  clear e1 e2
                  go_wp2_with fail
                  go_roundw
                  case rel => exact ⟨i + 1, by omega, by go_num, by first | (rw [E1.out]; done) | (rw [E1.out]; rfl), by first | (rw [E2.out]; done) | (rw [E2.out]; rfl), hbq⟩
                  case measure => simp [intOf]; omega
        · obtain rfl : i = 8 := by omega
          have d1 : ¬ (8 : Int) < 8 := by omega
          have he : refAt (zeros G) 8 = refRow (zeros G) := refAt_end _
          rw [he]
          obtain ⟨_, _, _, hfm, _⟩ := rows_of HGL.out
          obtain ⟨f, hF⟩ : ∃ f, (refRow (zeros G)).1 = f := ⟨_, rfl⟩
          obtain ⟨m, hM⟩ : ∃ f, (refRow (zeros G)).2 = f := ⟨_, rfl⟩
          have HF := Lib.hid hF
          have HM := Lib.hid hM
          rw [hF, hM] at hfm
          rw [hF, hM]
          clear hF hM he
          have hbw2 := bl_trans hbw hbs
          go_wp2_with fail
          go_loopw [10, 11] (fun vs vi ws => ∃ (i : Nat) (S : ByteArray), i ≤ 8 ∧ (m < 2 ∨ i ≤ f ∨ f + m ≤ i) ∧ vi = .int .i64 i ∧ vs = .string S ∧ bts S = preT G f m i ∧ Below wr.heap.size wr ws) (fun _ i _ => 8 - (intOf i).toNat)
          case atStart => exact ⟨0, ⟨#[]⟩, by omega, by omega, rfl, rfl, by unfold preT; rw [if_pos (.inr (Nat.zero_le _))]; rfl, Below.refl _ _⟩
          case round =>
            obtain ⟨i, S, hi, hpos, rfl, rfl, hS, hbt⟩ := hrel
            have hSz : S.size ≤ 100 := by
              have h1 : (bts S).length = S.size := by simp [bts]
              rw [← h1, hS]
              exact preT_len HGL.out
            have HS := Lib.hid hS
            clear hS
            by_cases hlt : i < 8
            · have d1 : (i : Int) < 8 := by omega
              obtain ⟨x, hx⟩ : ∃ x, G[i]? = some x := ⟨_, List.getElem?_eq_getElem (by rw [HGL.out]; exact hlt)⟩
              have hx6 : x < 65536 := HG6.out _ (List.mem_of_getElem? hx)
              have c0 := (hbt.cell (p := ⟨gg, i, none⟩) (Nat.lt_of_lt_of_le r2 hbs.size)).trans ((hbs.cell (p := ⟨gg, i, none⟩) r2).trans (HGC.out _ _ hx))
              have HHX := Lib.hid (fun w => rhex_c x w hx6)
              have hhz : (hexT x).size ≤ 4 := hexD_len x
              by_cases hA : 2 ≤ m ∧ i = f
              · obtain ⟨hm2, rfl⟩ := hA
                have d2 : (2 : Int) ≤ m := by omega
                have hnx : bts (S ++ ⟨#[58, 58]⟩) = preT G i m (i + m) := by
                  rw [preT_skip hm2 (by rw [HGL.out]; exact hfm), ← HS.out]
                  simp [bts]
                have HNX := Lib.hid hnx
                clear hnx hx
                go_wp2_with fail
                go_roundw
                case rel => exact ⟨i + m, S ++ ⟨#[58, 58]⟩, by omega, .inr (.inr (Nat.le_refl _)), by first | go_num | (congr 1; omega), rfl, HNX.out, hbt⟩
                case measure => simp [intOf]; omega
              · have hpos2 : m < 2 ∨ i < f ∨ f + m ≤ i := by omega
                have HPS := Lib.hid (preT_step HG6.out hx hpos2)
                have HNX : Hid (m < 2 ∨ i + 1 ≤ f ∨ f + m ≤ i + 1) := Lib.hid (by omega)
                have hcond : (¬ (2 : Int) ≤ m) ∨ ((2 : Int) ≤ m ∧ ((i : Int) == f) = false) := by
                  by_cases h2 : 2 ≤ m
                  · exact .inr ⟨by omega, by simp; omega⟩
                  · exact .inl (by omega)
                have hsep : (S = ⟨#[]⟩ ∧ sepT (preT G f m i) = []) ∨ (∃ j, ∃ hj : S.size = j + 1, ((S[j]'(by omega)).toNat = 58 ∧ sepT (preT G f m i) = [])) ∨ (∃ j d, ∃ hj : S.size = j + 1, ((S[j]'(by omega)).toNat = d ∧ d ≠ 58 ∧ sepT (preT G f m i) = [58])) := by
                  rw [← HS.out]
                  unfold sepT
                  by_cases he : bts S = []
                  · refine .inl ⟨?_, by rw [if_neg (fun h => h.1 he)]⟩
                    apply ByteArray.ext
                    apply Array.toList_inj.1
                    exact he
                  · obtain ⟨j, hj⟩ : ∃ j, S.size = j + 1 := by
                      have h1 : (bts S).length = S.size := by simp [bts]
                      have h2 : (bts S).length ≠ 0 := fun h => he (List.eq_nil_of_length_eq_zero h)
                      exact ⟨S.size - 1, by omega⟩
                    obtain ⟨c, hc⟩ : ∃ c, (bts S).getLast? = some c := by
                      cases h : (bts S).getLast? with
                      | none => exact absurd (List.getLast?_eq_none_iff.1 h) he
                      | some c => exact ⟨c, rfl⟩
                    have hl := last_sign hj hc
                    by_cases h58 : c = 58
                    · subst h58
                      exact .inr (.inl ⟨j, hj, by rw [hl]; rfl, by rw [if_neg (fun h => h.2 hc)]⟩)
                    · refine .inr (.inr ⟨j, c.toNat, hj, hl, fun h => h58 (UInt8.toNat_inj.1 h), ?_⟩)
                      rw [if_pos ⟨he, fun h => h58 (by rw [hc] at h; exact Option.some.inj h)⟩]
                clear hx hA hpos hpos2
                rcases hsep with ⟨rfl, hse⟩ | ⟨j, hj, hl, hse⟩ | ⟨j, d, hj, hl, hd58, hse⟩
                · have hbs3 : bts (⟨#[]⟩ ++ hexT x) = preT G f m i ++ sepT (preT G f m i) ++ hexD x := by
                    rw [hse, ← HS.out]; simp [bts, hexT]
                  have HBS := Lib.hid hbs3
                  clear hbs3 hse
                  rcases hcond with d2 | ⟨d2, d3⟩
                  all_goals
                    go_wp2_with fail
                    with_reducible refine (HHX.out _).mono ?_
                    rintro e w7 ⟨rfl, hb7⟩
                    have hbt7 := hbt.trans (hb7.mono hbt.size)
                    go_wp2_with fail
                    go_roundw
                    case rel => exact ⟨i + 1, _, by omega, HNX.out, by go_num, rfl, by rw [HPS.out]; exact HBS.out, hbt7⟩
                    case measure => simp [intOf]; omega
                · have hbs3 : bts (S ++ hexT x) = preT G f m i ++ sepT (preT G f m i) ++ hexD x := by
                    rw [hse, ← HS.out]; simp [bts, hexT]
                  have HBS := Lib.hid hbs3
                  have hsI : (S.size : Int) = j + 1 := by omega
                  have hjl : j < S.size := by omega
                  have hne : ¬ S = ⟨#[]⟩ := fun h => by
                    rw [h] at hj
                    exact absurd hj (by show ¬ (0 = j + 1); omega)
                  have hne2 : ¬ S.toList = [] := fun h => hne (by
                    rw [Lib.toList_data] at h
                    apply ByteArray.ext
                    exact Array.toList_inj.1 h)
                  have hne3 : S.toList.isEmpty = false := by
                    cases h : S.toList with
                    | nil => exact absurd h hne2
                    | cons a b => rfl
                  have hne4 : (S.toList == []) = false := by simpa using hne2
                  clear hbs3 hse hne
                  rcases hcond with d2 | ⟨d2, d3⟩
                  all_goals
                    go_wp2_with fail
                    with_reducible refine (HHX.out _).mono ?_
                    rintro e w7 ⟨rfl, hb7⟩
                    have hbt7 := hbt.trans (hb7.mono hbt.size)
                    go_wp2_with fail
                    go_roundw
                    case rel => exact ⟨i + 1, _, by omega, HNX.out, by go_num, rfl, by rw [HPS.out]; exact HBS.out, hbt7⟩
                    case measure => simp [intOf]; omega
                · have hbs3 : bts (S ++ ⟨#[58]⟩ ++ hexT x) = preT G f m i ++ sepT (preT G f m i) ++ hexD x := by
                    rw [hse, ← HS.out]; simp [bts, hexT]
                  have HBS := Lib.hid hbs3
                  have hsI : (S.size : Int) = j + 1 := by omega
                  have hjl : j < S.size := by omega
                  have hne : ¬ S = ⟨#[]⟩ := fun h => by
                    rw [h] at hj
                    exact absurd hj (by show ¬ (0 = j + 1); omega)
                  have hne2 : ¬ S.toList = [] := fun h => hne (by
                    rw [Lib.toList_data] at h
                    apply ByteArray.ext
                    exact Array.toList_inj.1 h)
                  have hne3 : S.toList.isEmpty = false := by
                    cases h : S.toList with
                    | nil => exact absurd h hne2
                    | cons a b => rfl
                  have hne4 : (S.toList == []) = false := by simpa using hne2
                  have e58 : ((d : Int) == 58) = false := by simp; omega
                  have e58' : ((d : Int) != 58) = true := by simp; omega
                  clear hbs3 hse hne
                  rcases hcond with d2 | ⟨d2, d3⟩
                  all_goals
                    go_wp2_with fail
                    with_reducible refine (HHX.out _).mono ?_
                    rintro e w7 ⟨rfl, hb7⟩
                    have hbt7 := hbt.trans (hb7.mono hbt.size)
                    go_wp2_with fail
                    go_roundw
                    case rel => exact ⟨i + 1, _, by omega, HNX.out, by go_num, rfl, by rw [HPS.out]; exact HBS.out, hbt7⟩
                    case measure => simp [intOf]; omega
            · obtain rfl : i = 8 := by omega
              have d1 : ¬ (8 : Int) < 8 := by omega
              have hfin : S = ⟨(preT G (refRow (zeros G)).1 (refRow (zeros G)).2 8).toArray⟩ := by
                rw [HF.out, HM.out]
                apply ByteArray.ext
                apply Array.toList_inj.1
                show bts S = _
                rw [HS.out]
              have HFIN := Lib.hid hfin
              clear hfin
              go_wp2_with fail
              go_ret
              exact ⟨by rw [HGE.out, ← HFIN.out]; rfl, bl_trans hbw2 hbt⟩
end Go.Proofs.YtpfilldnfpcpkaaGreatDoor

namespace Go.Proofs.YtpfilldnfpcpkaaGreatDoor
open Go.RowKit

set_option maxRecDepth 100000 in
theorem rprint_no (v6 : Bool) (n : Nat) (w : World) (hn : n < 340282366920938463463374607431768211456) (hr : rightB v6 n = false) :
    Calls Tryz.prog 127 #[AddrV v6 n] w fun e w' => e = .returned (.string ⟨#[]⟩) ∧ Below w.heap.size w w' := by
  have HR := Lib.hid (fun w => rright_c v6 n w hn)
  rw [hr] at HR
  simp only [AddrV_eq, AddrC] at *
  go_enter Tryz.func127, Tryz.ntmps127
  go_wp2_with fail
  with_reducible refine (HR.out _).mono ?_
  rintro e w1 ⟨rfl, hb1⟩
  go_wp2_with fail
  go_ret
  exact ⟨rfl, bl_⟩
theorem byte_cell4 {n j : Nat} (hj : j < 4) : (bytesV (ints (bytesB 4 n)))[j]? = some (.int .u8 ((n / 256 ^ (3 - j) % 256 : Nat) : Int)) := by
  have h := bytesB_at (k := 4) (n := n) hj
  simp only [bytesV, ints, List.getElem?_map, h, Option.map_some]
  rfl
set_option maxRecDepth 100000 in
set_option maxHeartbeats 3200000 in
theorem rprint4_c (n : Nat) (w : World) (hn : n < 4294967296) :
    Calls Tryz.prog 127 #[AddrV false n] w fun e w' => e = .returned (.string ⟨(print4 n).toArray⟩) ∧ Below w.heap.size w w' := by
  have hn2 : n < 340282366920938463463374607431768211456 := Nat.lt_trans hn (by decide)
  have HR := Lib.hid (fun w => rright_c false n w hn2)
  have hrt : rightB false n = true := decide_eq_true hn
  rw [hrt] at HR
  have HB := Lib.hid (fun w => rbytes_c false n w hn2)
  clear hrt
  simp only [AddrV_eq, AddrC] at *
  go_enter Tryz.func127, Tryz.ntmps127
  go_wp2_with fail
  have hA : Blk (w.alloc (Obj.cells #[.bool false, .int .u64 (hi n), .int .u64 (lo n)] 26)) (w.heap.size) 26 (AddrC false n) := (Blk.new' _ _ _ _ (by simp) : Blk (w.alloc (Obj.cells #[.bool false, .int .u64 (hi n), .int .u64 (lo n)] 26)) (w.heap.size) 26 (AddrC false n))
  have hbel : Below w.heap.size w (w.alloc (Obj.cells #[.bool false, .int .u64 (hi n), .int .u64 (lo n)] 26)) := bl_
  have hsz : (w.alloc (Obj.cells #[.bool false, .int .u64 (hi n), .int .u64 (lo n)] 26)).heap.size = w.heap.size + 1 := by simp
  generalize w.alloc (Obj.cells #[.bool false, .int .u64 (hi n), .int .u64 (lo n)] 26) = w0 at *
  with_reducible refine (HR.out _).mono ?_
  rintro e w1 ⟨rfl, hb⟩
  (try clear a0 a1 a2 az0 az1 az2 az3)
  replace hA := hA.after hb
  obtain ⟨a0, a1, a2, _⟩ := blk_adr hA
  have az0 := hA.frozen 0
  have az1 := hA.frozen 1
  have az2 := hA.frozen 2
  (try clear al al1 al2)
  have al := hA.lt
  have al1 := Nat.lt_succ_of_lt al
  have al2 := Nat.lt_succ_of_lt al1
  try simp only [Nat.succ_eq_add_one] at al1 al2
  replace hbel := bl_trans hbel hb
  clear hb
  go_wp2_with fail
  with_reducible refine (HB.out _).mono ?_
  rintro e w2 ⟨vb, rfl, hownb, hb⟩
  obtain ⟨gb, cb, rfl, _, q2, q3, q4, _⟩ := own_form hownb (by decide : 0 < byteN false)
  have hcb : 4 ≤ cb := q3
  have hx : ∀ j, j < 4 → w2.cell? ⟨gb, j, none⟩ = some (.int .u8 ((n / 256 ^ (3 - j) % 256 : Nat) : Int)) := fun j hj => q4 j _ (byte_cell4 hj)
  have y0 := hx 0 (by omega)
  have y1 := hx 1 (by omega)
  have y2 := hx 2 (by omega)
  have y3 := hx 3 (by omega)
  replace hA := hA.after hb
  replace hbel := bl_trans hbel hb
  clear hx q4 q3 hb hownb a0 a1 a2 az0 az1 az2
  obtain ⟨a0, a1, a2, _⟩ := blk_adr hA
  have az0 := hA.frozen 0
  have az1 := hA.frozen 1
  have az2 := hA.frozen 2
  have hb4 : byteN false = 4 := rfl
  rw [hb4]
  have hpr : (⟨(print4 n).toArray⟩ : ByteArray) = itoaT (n / 256 ^ (3 - 0) % 256) ++ ⟨#[46]⟩ ++ itoaT (n / 256 ^ (3 - 1) % 256) ++ ⟨#[46]⟩ ++ itoaT (n / 256 ^ (3 - 2) % 256) ++ ⟨#[46]⟩ ++ itoaT (n / 256 ^ (3 - 3) % 256) := by
    apply ByteArray.ext
    apply Array.toList_inj.1
    unfold print4 itoaT
    rw [show bytesB 4 n = [n / 256 ^ (3 - 0) % 256, n / 256 ^ (3 - 1) % 256, n / 256 ^ (3 - 2) % 256, n / 256 ^ (3 - 3) % 256] from rfl]
    simp only [List.map, join_cons, join_one]
    simp
  have p0 : n / 256 ^ (3 - 0) % 256 < 256 := Nat.mod_lt _ (by omega)
  have p1 : n / 256 ^ (3 - 1) % 256 < 256 := Nat.mod_lt _ (by omega)
  have p2 : n / 256 ^ (3 - 2) % 256 < 256 := Nat.mod_lt _ (by omega)
  have p3 : n / 256 ^ (3 - 3) % 256 < 256 := Nat.mod_lt _ (by omega)
  have HPR := Lib.hid hpr
  clear hpr
  obtain ⟨e0, he0⟩ : ∃ e, n / 256 ^ (3 - 0) % 256 = e := ⟨_, rfl⟩
  rw [he0] at HPR p0 y0
  clear he0
  have HD0 := Lib.hid (fun w => rdec_c e0 w p0)
  have hz0 : (itoaT e0).size ≤ 3 := (by decide +kernel : ∀ x, x < 256 → (itoaT x).size ≤ 3) e0 p0
  have hw0 : IntKind.i64.wrap (e0 : Int) = e0 := IntWalk.i64_in _ (by omega)
  obtain ⟨D0, hD0⟩ : ∃ D, itoaT e0 = D := ⟨_, rfl⟩
  rw [hD0] at HPR HD0 hz0
  clear hD0
  obtain ⟨e1, he1⟩ : ∃ e, n / 256 ^ (3 - 1) % 256 = e := ⟨_, rfl⟩
  rw [he1] at HPR p1 y1
  clear he1
  have HD1 := Lib.hid (fun w => rdec_c e1 w p1)
  have hz1 : (itoaT e1).size ≤ 3 := (by decide +kernel : ∀ x, x < 256 → (itoaT x).size ≤ 3) e1 p1
  have hw1 : IntKind.i64.wrap (e1 : Int) = e1 := IntWalk.i64_in _ (by omega)
  obtain ⟨D1, hD1⟩ : ∃ D, itoaT e1 = D := ⟨_, rfl⟩
  rw [hD1] at HPR HD1 hz1
  clear hD1
  obtain ⟨e2, he2⟩ : ∃ e, n / 256 ^ (3 - 2) % 256 = e := ⟨_, rfl⟩
  rw [he2] at HPR p2 y2
  clear he2
  have HD2 := Lib.hid (fun w => rdec_c e2 w p2)
  have hz2 : (itoaT e2).size ≤ 3 := (by decide +kernel : ∀ x, x < 256 → (itoaT x).size ≤ 3) e2 p2
  have hw2 : IntKind.i64.wrap (e2 : Int) = e2 := IntWalk.i64_in _ (by omega)
  obtain ⟨D2, hD2⟩ : ∃ D, itoaT e2 = D := ⟨_, rfl⟩
  rw [hD2] at HPR HD2 hz2
  clear hD2
  obtain ⟨e3, he3⟩ : ∃ e, n / 256 ^ (3 - 3) % 256 = e := ⟨_, rfl⟩
  rw [he3] at HPR p3 y3
  clear he3
  have HD3 := Lib.hid (fun w => rdec_c e3 w p3)
  have hz3 : (itoaT e3).size ≤ 3 := (by decide +kernel : ∀ x, x < 256 → (itoaT x).size ≤ 3) e3 p3
  have hw3 : IntKind.i64.wrap (e3 : Int) = e3 := IntWalk.i64_in _ (by omega)
  obtain ⟨D3, hD3⟩ : ∃ D, itoaT e3 = D := ⟨_, rfl⟩
  rw [hD3] at HPR HD3 hz3
  clear hD3
  have hc1 : ∀ w, (Op.stringOp .add D0 ⟨#[46]⟩).run Tryz.prog w = .ok (.string (D0 ++ ⟨#[46]⟩)) w := fun w => run_string_add w _ _ (by omega) (by decide)
  have hs1 : (D0 ++ (⟨#[46]⟩ : ByteArray)).size ≤ 4 := by rw [ByteArray.size_append]; show D0.size + 1 ≤ 4; omega
  have hc2 : ∀ w, (Op.stringOp .add (D0 ++ ⟨#[46]⟩) D1).run Tryz.prog w = .ok (.string (D0 ++ ⟨#[46]⟩ ++ D1)) w := fun w => run_string_add w _ _ (by omega) (by omega)
  have hs2 : (D0 ++ (⟨#[46]⟩ : ByteArray) ++ D1).size ≤ 7 := by rw [ByteArray.size_append]; omega
  have hc3 : ∀ w, (Op.stringOp .add (D0 ++ ⟨#[46]⟩ ++ D1) ⟨#[46]⟩).run Tryz.prog w = .ok (.string (D0 ++ ⟨#[46]⟩ ++ D1 ++ ⟨#[46]⟩)) w := fun w => run_string_add w _ _ (by omega) (by decide)
  have hs3 : (D0 ++ (⟨#[46]⟩ : ByteArray) ++ D1 ++ (⟨#[46]⟩ : ByteArray)).size ≤ 8 := by rw [ByteArray.size_append]; show _ + 1 ≤ 8; omega
  have hc4 : ∀ w, (Op.stringOp .add (D0 ++ ⟨#[46]⟩ ++ D1 ++ ⟨#[46]⟩) D2).run Tryz.prog w = .ok (.string (D0 ++ ⟨#[46]⟩ ++ D1 ++ ⟨#[46]⟩ ++ D2)) w := fun w => run_string_add w _ _ (by omega) (by omega)
  have hs4 : (D0 ++ (⟨#[46]⟩ : ByteArray) ++ D1 ++ (⟨#[46]⟩ : ByteArray) ++ D2).size ≤ 11 := by rw [ByteArray.size_append]; omega
  have hc5 : ∀ w, (Op.stringOp .add (D0 ++ ⟨#[46]⟩ ++ D1 ++ ⟨#[46]⟩ ++ D2) ⟨#[46]⟩).run Tryz.prog w = .ok (.string (D0 ++ ⟨#[46]⟩ ++ D1 ++ ⟨#[46]⟩ ++ D2 ++ ⟨#[46]⟩)) w := fun w => run_string_add w _ _ (by omega) (by decide)
  have hs5 : (D0 ++ (⟨#[46]⟩ : ByteArray) ++ D1 ++ (⟨#[46]⟩ : ByteArray) ++ D2 ++ (⟨#[46]⟩ : ByteArray)).size ≤ 12 := by rw [ByteArray.size_append]; show _ + 1 ≤ 12; omega
  have hc6 : ∀ w, (Op.stringOp .add (D0 ++ ⟨#[46]⟩ ++ D1 ++ ⟨#[46]⟩ ++ D2 ++ ⟨#[46]⟩) D3).run Tryz.prog w = .ok (.string (D0 ++ ⟨#[46]⟩ ++ D1 ++ ⟨#[46]⟩ ++ D2 ++ ⟨#[46]⟩ ++ D3)) w := fun w => run_string_add w _ _ (by omega) (by omega)
  have hks : ∀ w', Below w2.heap.size w2 w' → (w'.cell? ⟨gb, 0, none⟩ = some (.int .u8 (e0 : Nat)) ∧ w'.cell? ⟨gb, 1, none⟩ = some (.int .u8 (e1 : Nat)) ∧ w'.cell? ⟨gb, 2, none⟩ = some (.int .u8 (e2 : Nat)) ∧ w'.cell? ⟨gb, 3, none⟩ = some (.int .u8 (e3 : Nat))) ∧ Below w2.heap.size w2 w' := fun w' h =>
    ⟨⟨(h.cell (p := ⟨gb, 0, none⟩) q2).trans y0, (h.cell (p := ⟨gb, 1, none⟩) q2).trans y1, (h.cell (p := ⟨gb, 2, none⟩) q2).trans y2, (h.cell (p := ⟨gb, 3, none⟩) q2).trans y3⟩, h⟩
  have HKS := Lib.hid hks
  clear hks
  go_wp2_with fail
  refine wp_region_held_drew (S := fun w' => (w'.cell? ⟨gb, 0, none⟩ = some (.int .u8 (e0 : Nat)) ∧ w'.cell? ⟨gb, 1, none⟩ = some (.int .u8 (e1 : Nat)) ∧ w'.cell? ⟨gb, 2, none⟩ = some (.int .u8 (e2 : Nat)) ∧ w'.cell? ⟨gb, 3, none⟩ = some (.int .u8 (e3 : Nat))) ∧ Below w2.heap.size w2 w') (by kernel_rfl) ?_ (fun hHeld => ?_)
  · exact HKS.out _ bl_
  refine take_q (i := 0) (v := ?_) rfl (by kernel_rfl) (by kernel_rfl) (by kernel_rfl) (fun _ _ _ h => h) (Or.inl ⟨by rfl, ?_⟩) (by assumption) ?_
  rotate_left
  · intro w hSw; (try dsimp only at hSw); go_simp; (try simp only [HDEC.out]); (try simp only [HDEC2.out]); try with_reducible rfl
  try simp only [Act.put, List.setIfInBounds_toArray, List.set_cons_zero, List.set_cons_succ]
  refine take_q (i := 1) (v := ?_) rfl (by kernel_rfl) (by kernel_rfl) (by kernel_rfl) (fun _ _ _ h => h) (Or.inl ⟨by rfl, ?_⟩) (by assumption) ?_
  rotate_left
  · intro w hSw; (try dsimp only at hSw); go_simp; (try simp only [HDEC.out]); (try simp only [HDEC2.out]); try with_reducible rfl
  try simp only [Act.put, List.setIfInBounds_toArray, List.set_cons_zero, List.set_cons_succ]
  refine take_q (i := 2) (v := ?_) rfl (by kernel_rfl) (by kernel_rfl) (by kernel_rfl) (fun _ _ _ h => h) (Or.inl ⟨by rfl, ?_⟩) (by assumption) ?_
  rotate_left
  · intro w hSw; (try dsimp only at hSw); go_simp; (try simp only [HDEC.out]); (try simp only [HDEC2.out]); try with_reducible rfl
  try simp only [Act.put, List.setIfInBounds_toArray, List.set_cons_zero, List.set_cons_succ]
  refine take_q (i := 3) (v := ?_) rfl (by kernel_rfl) (by kernel_rfl) (by kernel_rfl) (fun _ _ _ h => h) (Or.inl ⟨by rfl, ?_⟩) (by assumption) ?_
  rotate_left
  · intro w hSw; (try dsimp only at hSw); go_simp; (try simp only [HDEC.out]); (try simp only [HDEC2.out]); try with_reducible rfl
  try simp only [Act.put, List.setIfInBounds_toArray, List.set_cons_zero, List.set_cons_succ]
  refine take_q (i := 6) (v := ?_) rfl (by kernel_rfl) (by kernel_rfl) (by kernel_rfl) (fun _ _ _ h => h) (Or.inl ⟨by rfl, ?_⟩) (by assumption) ?_
  rotate_left
  · intro w hSw; (try dsimp only at hSw); go_simp; (try simp only [HDEC.out]); (try simp only [HDEC2.out]); try with_reducible rfl
  try simp only [Act.put, List.setIfInBounds_toArray, List.set_cons_zero, List.set_cons_succ]
  refine take_q (i := 7) (v := ?_) rfl (by kernel_rfl) (by kernel_rfl) (by kernel_rfl) (fun _ _ _ h => h) (Or.inl ⟨by rfl, ?_⟩) (by assumption) ?_
  rotate_left
  · intro w hSw; (try dsimp only at hSw); go_simp; (try simp only [HDEC.out]); (try simp only [HDEC2.out]); try with_reducible rfl
  try simp only [Act.put, List.setIfInBounds_toArray, List.set_cons_zero, List.set_cons_succ]
  refine take_q (i := 8) (v := ?_) rfl (by kernel_rfl) (by kernel_rfl) (by kernel_rfl) (fun _ _ _ h => h) (Or.inl ⟨by rfl, ?_⟩) (by assumption) ?_
  rotate_left
  · intro w hSw; (try dsimp only at hSw); go_simp; (try simp only [HDEC.out]); (try simp only [HDEC2.out]); try with_reducible rfl
  try simp only [Act.put, List.setIfInBounds_toArray, List.set_cons_zero, List.set_cons_succ]
  refine take_q (i := 9) (v := ?_) rfl (by kernel_rfl) (by kernel_rfl) (by kernel_rfl) (fun _ _ _ h => h) (Or.inl ⟨by rfl, ?_⟩) (by assumption) ?_
  rotate_left
  · intro w hSw; (try dsimp only at hSw); go_simp; (try simp only [HDEC.out]); (try simp only [HDEC2.out]); try with_reducible rfl
  try simp only [Act.put, List.setIfInBounds_toArray, List.set_cons_zero, List.set_cons_succ]
  refine take_q (i := 13) (v := ?_) rfl (by kernel_rfl) (by kernel_rfl) (by kernel_rfl) (fun _ _ _ h => h) (Or.inl ⟨by rfl, ?_⟩) (by assumption) ?_
  rotate_left
  · intro w hSw; (try dsimp only at hSw); go_simp; (try simp only [HDEC.out]); (try simp only [HDEC2.out]); try with_reducible rfl
  try simp only [Act.put, List.setIfInBounds_toArray, List.set_cons_zero, List.set_cons_succ]
  refine take_q (i := 14) (v := ?_) rfl (by kernel_rfl) (by kernel_rfl) (by kernel_rfl) (fun _ _ _ h => h) (Or.inl ⟨by rfl, ?_⟩) (by assumption) ?_
  rotate_left
  · intro w hSw; (try dsimp only at hSw); go_simp; (try simp only [HDEC.out]); (try simp only [HDEC2.out]); try with_reducible rfl
  try simp only [Act.put, List.setIfInBounds_toArray, List.set_cons_zero, List.set_cons_succ]
  refine take_q (i := 15) (v := ?_) rfl (by kernel_rfl) (by kernel_rfl) (by kernel_rfl) (fun _ _ _ h => h) (Or.inl ⟨by rfl, ?_⟩) (by assumption) ?_
  rotate_left
  · intro w hSw; (try dsimp only at hSw); go_simp; (try simp only [HDEC.out]); (try simp only [HDEC2.out]); try with_reducible rfl
  try simp only [Act.put, List.setIfInBounds_toArray, List.set_cons_zero, List.set_cons_succ]
  refine take_q (i := 16) (v := ?_) rfl (by kernel_rfl) (by kernel_rfl) (by kernel_rfl) (fun _ _ _ h => h) (Or.inl ⟨by rfl, ?_⟩) (by assumption) ?_
  rotate_left
  · intro w hSw; (try dsimp only at hSw); go_simp; (try simp only [HDEC.out]); (try simp only [HDEC2.out]); try with_reducible rfl
  try simp only [Act.put, List.setIfInBounds_toArray, List.set_cons_zero, List.set_cons_succ]
  refine take_q (i := 20) (v := ?_) rfl (by kernel_rfl) (by kernel_rfl) (by kernel_rfl) (fun _ _ _ h => h) (Or.inl ⟨by rfl, ?_⟩) (by assumption) ?_
  rotate_left
  · intro w hSw; (try dsimp only at hSw); go_simp; (try simp only [HDEC.out]); (try simp only [HDEC2.out]); try with_reducible rfl
  try simp only [Act.put, List.setIfInBounds_toArray, List.set_cons_zero, List.set_cons_succ]
  refine take_q (i := 21) (v := ?_) rfl (by kernel_rfl) (by kernel_rfl) (by kernel_rfl) (fun _ _ _ h => h) (Or.inl ⟨by rfl, ?_⟩) (by assumption) ?_
  rotate_left
  · intro w hSw; (try dsimp only at hSw); go_simp; (try simp only [HDEC.out]); (try simp only [HDEC2.out]); try with_reducible rfl
  try simp only [Act.put, List.setIfInBounds_toArray, List.set_cons_zero, List.set_cons_succ]
  refine take_q (i := 22) (v := ?_) rfl (by kernel_rfl) (by kernel_rfl) (by kernel_rfl) (fun _ _ _ h => h) (Or.inl ⟨by rfl, ?_⟩) (by assumption) ?_
  rotate_left
  · intro w hSw; (try dsimp only at hSw); go_simp; (try simp only [HDEC.out]); (try simp only [HDEC2.out]); try with_reducible rfl
  try simp only [Act.put, List.setIfInBounds_toArray, List.set_cons_zero, List.set_cons_succ]
  refine take_q (i := 23) (v := ?_) rfl (by kernel_rfl) (by kernel_rfl) (by kernel_rfl) (fun _ _ _ h => h) (Or.inl ⟨by rfl, ?_⟩) (by assumption) ?_
  rotate_left
  · intro w hSw; (try dsimp only at hSw); go_simp; (try simp only [HDEC.out]); (try simp only [HDEC2.out]); try with_reducible rfl
  try simp only [Act.put, List.setIfInBounds_toArray, List.set_cons_zero, List.set_cons_succ]
  refine wpAnyH_ready (rs := [4]) (by kernel_rfl) (by simp) ?_
  refine cons_q rfl (fun K hK => ?_) AllReadyH.nil
  go_simp
  with_reducible refine (HD0.out _).mono ?_; rintro e v0 ⟨rfl, hc_0⟩
  refine hK.out _ _ ?_ (fun hHeld => ?_)
  · exact HKS.out _ bl_
  clear hK K
  try simp only [Act.put, List.setIfInBounds_toArray, List.set_cons_zero, List.set_cons_succ]
  refine take_q (i := 5) (v := ?_) rfl (by kernel_rfl) (by kernel_rfl) (by kernel_rfl) (fun _ _ _ h => h) (Or.inl ⟨by rfl, ?_⟩) (by assumption) ?_
  rotate_left
  · intro w hSw; (try dsimp only at hSw); go_simp; (try simp only [HDEC.out]); (try simp only [HDEC2.out]); try with_reducible rfl
  try simp only [Act.put, List.setIfInBounds_toArray, List.set_cons_zero, List.set_cons_succ]
  refine wpAnyH_ready (rs := [10]) (by kernel_rfl) (by simp) ?_
  refine cons_q rfl (fun K hK => ?_) AllReadyH.nil
  go_simp
  with_reducible refine (HD1.out _).mono ?_; rintro e v1 ⟨rfl, hc_1⟩
  refine hK.out _ _ ?_ (fun hHeld => ?_)
  · exact HKS.out _ bl_
  clear hK K
  try simp only [Act.put, List.setIfInBounds_toArray, List.set_cons_zero, List.set_cons_succ]
  refine take_q (i := 11) (v := ?_) rfl (by kernel_rfl) (by kernel_rfl) (by kernel_rfl) (fun _ _ _ h => h) (Or.inl ⟨by rfl, ?_⟩) (by assumption) ?_
  rotate_left
  · intro w hSw; (try dsimp only at hSw); go_simp; (try simp only [HDEC.out]); (try simp only [HDEC2.out]); try with_reducible rfl
  try simp only [Act.put, List.setIfInBounds_toArray, List.set_cons_zero, List.set_cons_succ]
  refine take_q (i := 12) (v := ?_) rfl (by kernel_rfl) (by kernel_rfl) (by kernel_rfl) (fun _ _ _ h => h) (Or.inl ⟨by rfl, ?_⟩) (by assumption) ?_
  rotate_left
  · intro w hSw; (try dsimp only at hSw); go_simp; (try simp only [HDEC.out]); (try simp only [HDEC2.out]); try with_reducible rfl
  try simp only [Act.put, List.setIfInBounds_toArray, List.set_cons_zero, List.set_cons_succ]
  refine wpAnyH_ready (rs := [17]) (by kernel_rfl) (by simp) ?_
  refine cons_q rfl (fun K hK => ?_) AllReadyH.nil
  go_simp
  with_reducible refine (HD2.out _).mono ?_; rintro e v2 ⟨rfl, hc_2⟩
  refine hK.out _ _ ?_ (fun hHeld => ?_)
  · exact HKS.out _ bl_
  clear hK K
  try simp only [Act.put, List.setIfInBounds_toArray, List.set_cons_zero, List.set_cons_succ]
  refine take_q (i := 18) (v := ?_) rfl (by kernel_rfl) (by kernel_rfl) (by kernel_rfl) (fun _ _ _ h => h) (Or.inl ⟨by rfl, ?_⟩) (by assumption) ?_
  rotate_left
  · intro w hSw; (try dsimp only at hSw); go_simp; (try simp only [HDEC.out]); (try simp only [HDEC2.out]); try with_reducible rfl
  try simp only [Act.put, List.setIfInBounds_toArray, List.set_cons_zero, List.set_cons_succ]
  refine take_q (i := 19) (v := ?_) rfl (by kernel_rfl) (by kernel_rfl) (by kernel_rfl) (fun _ _ _ h => h) (Or.inl ⟨by rfl, ?_⟩) (by assumption) ?_
  rotate_left
  · intro w hSw; (try dsimp only at hSw); go_simp; (try simp only [HDEC.out]); (try simp only [HDEC2.out]); try with_reducible rfl
  try simp only [Act.put, List.setIfInBounds_toArray, List.set_cons_zero, List.set_cons_succ]
  refine wpAnyH_ready (rs := [24]) (by kernel_rfl) (by simp) ?_
  refine cons_q rfl (fun K hK => ?_) AllReadyH.nil
  go_simp
  with_reducible refine (HD3.out _).mono ?_; rintro e v3 ⟨rfl, hc_3⟩
  refine hK.out _ _ ?_ (fun hHeld => ?_)
  · exact HKS.out _ bl_
  clear hK K
  try simp only [Act.put, List.setIfInBounds_toArray, List.set_cons_zero, List.set_cons_succ]
  refine take_q (i := 25) (v := ?_) rfl (by kernel_rfl) (by kernel_rfl) (by kernel_rfl) (fun _ _ _ h => h) (Or.inl ⟨by rfl, ?_⟩) (by assumption) ?_
  rotate_left
  · intro w hSw; (try dsimp only at hSw); go_simp; (try simp only [HDEC.out]); (try simp only [HDEC2.out]); try with_reducible rfl
  try simp only [Act.put, List.setIfInBounds_toArray, List.set_cons_zero, List.set_cons_succ]
  refine take_q (i := 26) (v := ?_) rfl (by kernel_rfl) (by kernel_rfl) (by kernel_rfl) (fun _ _ _ h => h) (Or.inl ⟨by rfl, ?_⟩) (by assumption) ?_
  rotate_left
  · intro w hSw; (try dsimp only at hSw); go_simp; (try simp only [HDEC.out]); (try simp only [HDEC2.out]); try with_reducible rfl
  try simp only [Act.put, List.setIfInBounds_toArray, List.set_cons_zero, List.set_cons_succ]
  refine wpAnyH_done (by kernel_rfl) ?_ _
  go_wp2_with fail
  go_ret
  exact ⟨by rw [HPR.out]; rfl, bl_trans hbel hHeld.2⟩
/-- the reference's text of any address is the program's -/
theorem rprint_c (v : Bool) (n : Nat) (w : World) (hn : n < 340282366920938463463374607431768211456) :
    Calls Tryz.prog 127 #[AddrV v n] w fun e w' => e = .returned (.string ⟨(printA v n).toArray⟩) ∧ Below w.heap.size w w' := by
  unfold printA
  by_cases hr : rightB v n = true
  · rw [if_pos hr]
    cases v
    · rw [if_neg (by simp)]; exact rprint4_c n w (right_false hr)
    · rw [if_pos rfl, ← print_alike (grps_len n)]; exact rprint6_c n w hn
  · rw [if_neg hr]
    exact rprint_no v n w hn (by simpa using hr)
end Go.Proofs.YtpfilldnfpcpkaaGreatDoor

namespace Go.Proofs.YtpfilldnfpcpkaaGreatDoor
open Go.RowKit

def platbookref02_Print.f (a0_0 : Bool) (a0_1 a0_2 : Int) : Option ByteArray := if okW a0_1 a0_2 = true then some (⟨(printA a0_0 (num a0_1 a0_2)).toArray⟩ : ByteArray) else none
theorem platbookref02_Print.calls (a0_0 : Bool) (a0_1 a0_2 : Int) (r : ByteArray) (w : World) (h : platbookref02_Print.f a0_0 a0_1 a0_2 = some r) :
    Calls Tryz.prog 127 #[.agg #[.bool a0_0, .int .u64 a0_1, .int .u64 a0_2]] w fun e w' => e = .returned (.string r) ∧ Below w.heap.size w w' := by
  unfold platbookref02_Print.f at h
  obtain ⟨hg, h⟩ := some_if h
  subst h
  rw [okW_adr hg]
  exact rprint_c a0_0 (num a0_1 a0_2) w (okW_lt hg)
end Go.Proofs.YtpfilldnfpcpkaaGreatDoor

namespace Go.Proofs.YtpfilldnfpcpkaaGreatDoor
open Go.RowKit Go.Proofs.YtpfilldnfpcpkaaGreatDoorW.PrintWords Go.Proofs.YtpfilldnfpcpkaaGreatDoorW.PrintLast

/-- what was there at the beginning, behind steps that leave it -/
theorem pb_ {w0 w W : World} (h : Aside0 (Below w0.heap.size w0 w)) (k : Below w0.heap.size w0 w → Below w0.heap.size w0 W := by intro h_; repeat (first | (with_reducible first | exact h_ | apply below_alloc | apply pw_below_drewN | apply below_drew1 | (refine below_set ?_ (Aside0.out ?_); rotate_left; assumption)) | exact h_)) : Below w0.heap.size w0 W := k h.out
theorem pw_ {w W : World} {g : Nat} {o : Obj} (h : w.heap[g]? = some o) (k : w.heap[g]? = some o → W.heap[g]? = some o := by intro h_; (with_reducible repeat (first | refine blk_drewN ?_ _ | refine blk_drew ?_ | refine blk_alloc ?_ _)); exact h_) : W.heap[g]? = some o := k h
theorem bb_ {w W w2 : World} {g : Nat} {o : Obj} (h : Aside0 (w.heap[g]? = some o)) (hb : Below W.heap.size W w2) (k : w.heap[g]? = some o → W.heap[g]? = some o := by intro h_; (with_reducible repeat (first | refine blk_drewN ?_ _ | refine blk_drew ?_ | refine blk_alloc ?_ _)); exact h_) : Aside0 (w2.heap[g]? = some o) := ⟨blk_below (k h.out) hb⟩
theorem bs_ {w0 w W w2 : World} (h : Aside0 (Below w0.heap.size w0 w)) (hb : Below W.heap.size W w2) (k : Below w0.heap.size w0 w → Below w0.heap.size w0 W := by intro h_; repeat (first | (with_reducible first | exact h_ | apply below_alloc | apply pw_below_drewN | apply below_drew1 | (refine below_set ?_ (Aside0.out ?_); rotate_left; assumption)) | exact h_)) : Aside0 (Below w0.heap.size w0 w2) := ⟨below_step (k h.out) hb⟩
theorem gw_ {w0 w W : World} {g : Nat} (h : Aside0 (Below w0.heap.size w0 w)) (hg : g = W.heap.size) (k : Below w0.heap.size w0 w → Below w0.heap.size w0 W := by intro h_; repeat (first | (with_reducible first | exact h_ | apply below_alloc | apply pw_below_drewN | apply below_drew1 | (refine below_set ?_ (Aside0.out ?_); rotate_left; assumption)) | exact h_)) : Aside0 (w0.heap.size ≤ g) := ⟨hg ▸ below_size (k h.out)⟩
theorem nl_ {w W : World} {g g2 : Nat} {o : Obj} (h : Aside0 (w.heap[g]? = some o)) (hg : g2 = W.heap.size) (k : w.heap[g]? = some o → W.heap[g]? = some o := by intro h_; (with_reducible repeat (first | refine blk_drewN ?_ _ | refine blk_drew ?_ | refine blk_alloc ?_ _)); exact h_) : Aside0 (g ≠ g2) := ⟨by rw [hg]; exact Nat.ne_of_lt (blk_lt (k h.out))⟩
theorem ng_ {w W : World} {g g2 : Nat} {o : Obj} (h : Aside0 (w.heap[g]? = some o)) (hg : g2 = W.heap.size) (k : w.heap[g]? = some o → W.heap[g]? = some o := by intro h_; (with_reducible repeat (first | refine blk_drewN ?_ _ | refine blk_drew ?_ | refine blk_alloc ?_ _)); exact h_) : Aside0 (g2 ≠ g) := ⟨by rw [hg]; exact Nat.ne_of_gt (blk_lt (k h.out))⟩
theorem c2_ {w : World} {g : Nat} {t : TypeId} {a b : Value} (h : Aside0 (w.heap[g]? = some (.cells #[a, b] t (0, 0)))) : w.cell? ⟨g, 0, none⟩ = some a ∧ w.cell? ⟨g, 1, none⟩ = some b ∧ w.frozen? ⟨g, 0, none⟩ = false ∧ w.frozen? ⟨g, 1, none⟩ = false :=
  ⟨(blk_cell h.out 0).trans rfl, (blk_cell h.out 1).trans rfl, blk_frozen h.out 0, blk_frozen h.out 1⟩
theorem c3_ {w : World} {g : Nat} {t : TypeId} {a b c : Value} (h : Aside0 (w.heap[g]? = some (.cells #[a, b, c] t (0, 0)))) : w.cell? ⟨g, 0, none⟩ = some a ∧ w.cell? ⟨g, 1, none⟩ = some b ∧ w.cell? ⟨g, 2, none⟩ = some c ∧ w.frozen? ⟨g, 0, none⟩ = false ∧ w.frozen? ⟨g, 1, none⟩ = false ∧ w.frozen? ⟨g, 2, none⟩ = false :=
  ⟨(blk_cell h.out 0).trans rfl, (blk_cell h.out 1).trans rfl, (blk_cell h.out 2).trans rfl, blk_frozen h.out 0, blk_frozen h.out 1, blk_frozen h.out 2⟩
theorem c4_ {w : World} {g : Nat} {t : TypeId} {a b c d : Value} (h : Aside0 (w.heap[g]? = some (.cells #[a, b, c, d] t (0, 0)))) : w.cell? ⟨g, 0, none⟩ = some a ∧ w.cell? ⟨g, 1, none⟩ = some b ∧ w.cell? ⟨g, 2, none⟩ = some c ∧ w.cell? ⟨g, 3, none⟩ = some d ∧ w.frozen? ⟨g, 0, none⟩ = false ∧ w.frozen? ⟨g, 1, none⟩ = false ∧ w.frozen? ⟨g, 2, none⟩ = false ∧ w.frozen? ⟨g, 3, none⟩ = false :=
  ⟨(blk_cell h.out 0).trans rfl, (blk_cell h.out 1).trans rfl, (blk_cell h.out 2).trans rfl, (blk_cell h.out 3).trans rfl, blk_frozen h.out 0, blk_frozen h.out 1, blk_frozen h.out 2, blk_frozen h.out 3⟩
section
variable {P : Program} {ops : Array Oper} {Q : Exit → Act → World → Prop} {md : Region.Mode} {S : World → Prop} {ds : List Nat}
theorem gl_ {rest : List Oper} {oi : Oper} {a : Act} {w : World} (N : Option Tmp) {f : FuncId} {fn : Func} {xs : Array Operand} {ts : Array TypeId} (hf : P.funcs[f]? = some fn) (args : Array Value)
    (h : Calls P f args w fun e w' => ∃ v, e = .returned v ∧ wpList P ops Q rest (a.put N v) w')
    (hop : oi.op = .call { callee := .value (.func f), args := xs, argTypes := ts } := by rfl) (hargs : xs.map a.eval = args := by (try simp only [List.map_toArray, List.map_cons, List.map_nil]); first | done | rfl | (simp only [List.length_drop, List.length_take]; rfl))
    (hd : oi.dst = N := by rfl) (hg : oi.guard = none := by rfl) (hname : (fn.name == "runtime.NumGoroutine") = false := by kernel_rfl) (hb : fn.body.isSome = true := by rfl) : wpList P ops Q (oi :: rest) a w :=
  goesL_ N hd hg hf hname hb args hop hargs h
theorem gr_ {oi : Oper} {N : Option Tmp} {a : Act} {w : World} {K : Act → World → Prop} {f : FuncId} {fn : Func} {xs : Array Operand} {ts : Array TypeId} (hf : P.funcs[f]? = some fn) (args : Array Value)
    (h : Calls P f args w fun e w' => ∃ v, e = .returned v ∧ K (a.put N v) w')
    (hw : Region.wanted oi (yielded ops a.tmps) = true := by rfl) (hN : oi.dst = N := by rfl) (hop : oi.op = .call { callee := .value (.func f), args := xs, argTypes := ts } := by rfl) (hargs : xs.map a.eval = args := by (try simp only [List.map_toArray, List.map_cons, List.map_nil]); first | done | rfl | (simp only [List.length_drop, List.length_take]; rfl))
    (hname : (fn.name == "runtime.NumGoroutine") = false := by kernel_rfl) (hb : fn.body.isSome = true := by rfl) : if Region.wanted oi (yielded ops a.tmps) = true then Oper.wp P oi a w K Q else K (a.put N undef) w :=
  goes_ hf hname hb args hw hN hop hargs h
theorem bx_ {rest : List Oper} {o : Oper} {a : Act} {W : World} (N : Tmp) (cs : Array Value) (t : TypeId)
    (h : ∀ g, g = W.heap.size → ∀ w1, w1.heap[g]? = some (.cells cs t (0, 0)) → Below W.heap.size W w1 → wpList P ops Q rest (a.put o.dst (.pointer (some ⟨g, 0, none⟩))) w1)
    (hd : o.dst = some N := by rfl) (hgd : o.guard = none := by rfl) (hrun : (execOp a.eval o).run P W = .ok (.value (.pointer (some ⟨W.heap.size, 0, none⟩))) (W.alloc (.cells cs t (0, 0))) := by first | (go_simp; done) | (go_simp; rfl)) : wpList P ops Q (o :: rest) a W :=
  box_event hgd hd hrun h
/-- what has come up, as a number's bits -/
def bm_ (n m : Nat) : Array Bool := ((List.range n).map fun i => m.testBit i).toArray
theorem pu_ {T : Bool × List (List Nat × List Nat)} {oi : Oper} {v : Value} {fuel : Nat} {l : Array Bool} {a a' : Act} {w : World} (i : Nat) (N : Option Tmp) (l' : Array Bool) (hi : ops[i]? = some oi) (hT : Aside0 (rtab md ops = T))
    (hy : Region.wanted oi (yielded ops a.tmps) = true ∧ ∀ w, (execOp a.eval oi).run P w = .ok (.value v) w) (h : wpAnyLast P md ops Q S ds fuel l' a' w)
    (ha : a.put N v = a' := by simp only [Act.put, List.setIfInBounds_toArray, List.set_cons_zero, List.set_cons_succ, i64_w, i32_w]; rfl) (hN : oi.dst = N := by rfl) (hc : anyT T l.toList l'.toList i = true := by kernel_rfl)
    (hQ : ∀ c a w, Q (.panic c) (a.put oi.dst v) w → Q (.panic c) a w := by exact fun _ _ _ h => h) : wpAnyLast P md ops Q S ds (fuel + 1) l a w :=
  pure_ (i := i) (N := N) l' hi hN (any_of hT.out hc) hQ (.inl hy) ha h
theorem ta_ {T : Bool × List (List Nat × List Nat)} {B : List Nat} {oi : Oper} {v : Value} {fuel : Nat} {l : Array Bool} {a a' : Act} {w : World} (i : Nat) (N : Option Tmp) (l' : Array Bool) (hi : ops[i]? = some oi) (hT : Aside0 (rtab md ops = T)) (hB : Aside0 (waitsOk T.2 B = true))
    (hy : Region.wanted oi (yielded ops a.tmps) = true ∧ ∀ w, S w → (execOp a.eval oi).run P w = .ok (.value v) w) (hS : S w) (h : wpAnyLast P md ops Q S ds fuel l' a' w)
    (ha : a.put N v = a' := by simp only [Act.put, List.setIfInBounds_toArray, List.set_cons_zero, List.set_cons_succ, i64_w, i32_w]; rfl) (hN : oi.dst = N := by rfl) (hc : takeW T B ds l.toList l'.toList i = true := by kernel_rfl)
    (hQ : ∀ c a w, Q (.panic c) (a.put oi.dst v) w → Q (.panic c) a w := by exact fun _ _ _ h => h) : wpAnyLast P md ops Q S ds (fuel + 1) l a w :=
  take_ (i := i) (N := N) l' hi hN (take_ofW hT.out hB.out hc) hQ (.inl hy) hS ha h
end
theorem kc_ {w : World} {g : Nat} {t : TypeId} {cs : Array Value} {v : Value} (h : Aside0 (w.heap[g]? = some (.cells cs t (0, 0)))) (i : Nat) (hv : cs[i]? = some v := by rfl) : w.cell? ⟨g, i, none⟩ = some v := (blk_cell h.out i).trans hv
end Go.Proofs.YtpfilldnfpcpkaaGreatDoor

namespace Go.Proofs.YtpfilldnfpcpkaaGreatDoor.PPo
open Go.RowKit Go.Proofs.YtpfilldnfpcpkaaGreatDoorW.PrintWords Go.Proofs.YtpfilldnfpcpkaaGreatDoorW.PrintLast Go.Proofs.YtpfilldnfpcpkaaGreatDoorW.PrintMore
attribute [local go_sem] max2_int min2_int max_two min_two max_three min_three max_four min_four   -- for this text's walks alone



def errW : Option Int → Value
  | none => .nilIface
  | some c => .iface 0 (.int .i64 c)
theorem errW_none : errW none = .nilIface := rfl
theorem errW_some (c : Int) : errW (some c) = .iface 0 (.int .i64 c) := rfl

structure S24 where
  f0 : Int
  f1 : Int
def z24 : S24 := ⟨(0 : Int), (0 : Int)⟩
structure S26 where
  f0 : Bool
  f1 : S24
structure S28 where
  f0 : S26
  f1 : Int
end Go.Proofs.YtpfilldnfpcpkaaGreatDoor.PPo

