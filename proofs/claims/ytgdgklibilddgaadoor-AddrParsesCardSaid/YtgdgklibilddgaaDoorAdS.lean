/- Addresses: the longest row of noughts; any address printed. -/
import Derived.Test.YtgdgklibilddgaaDoorAdK
import Derived.Test.YtgdgklibilddgaaDoorAdL
namespace Go.Proofs.YtgdgklibilddgaaDoor
open Go.RowKit

theorem runAt_long : ∀ (d n : Nat) (z : List Bool), (∀ j, n ≤ j → j < n + d → z[j]? = some true) → d ≤ runAt (z.drop n)
  | 0, _, _, _ => Nat.zero_le _
  | d + 1, n, z, h1 => by
    have h0 := h1 n (Nat.le_refl _) (by omega)
    obtain ⟨hi, e⟩ := List.getElem?_eq_some_iff.1 h0
    rw [List.drop_eq_getElem_cons hi, e, runAt]
    have := runAt_long d (n + 1) z (fun j a b => h1 j (by omega) (by omega))
    omega
theorem run_exit {G : List Nat} {i k x : Nat} (hrun : runAt ((zeros G).drop i) = k - i) (hik : i ≤ k) (hall : ∀ j, i ≤ j → j < k → (zeros G)[j]? = some true) (hx : G[k]? = some x) : x ≠ 0 := by
  intro e
  subst e
  have := runAt_long (k + 1 - i) i (zeros G) (fun j a b => by
    by_cases e : j = k
    · subst e; rw [zeros_at hx]; rfl
    · exact hall j a (by omega))
  omega
theorem u16_at {G : List Nat} {k x : Nat} (h : G[k]? = some x) : (u16V G).toArray[k]? = some (.int .u16 (x : Nat)) := by unfold u16V; simp [h]
set_option maxRecDepth 100000 in
set_option maxHeartbeats 3200000 in
theorem row_c (G : List Nat) (w : World) (hl : G.length = 8) (hG : ∀ g ∈ G, g < 65536) :
    Calls Tryd.prog 28 #[.agg (u16V G).toArray] w fun e w' => e = .returned (.tuple #[.int .i64 ((progRow (zeros G)).1 : Nat), .int .i64 ((progRow (zeros G)).2 : Nat)]) ∧ Below w.heap.size w w' := by
  have hzl : (zeros G).length = 8 := by rw [zeros_len, hl]
  have HZL := Lib.hid hzl
  have HL := Lib.hid hl
  have HLT := Lib.hid hG
  clear hzl hl hG
  go_enter Tryd.func28, Tryd.ntmps28
  go_wp2_with fail
  have hA : Blk (w.alloc (Obj.cells ((u16V G).toArray) 49)) (w.heap.size) 49 ((u16V G).toArray) := (Blk.new' _ _ _ _ (by simp) : Blk (w.alloc (Obj.cells ((u16V G).toArray) 49)) (w.heap.size) 49 ((u16V G).toArray))
  have hbel : Below w.heap.size w (w.alloc (Obj.cells ((u16V G).toArray) 49)) := (by repeat (first | (with_reducible exact Below.refl _ _) | (with_reducible assumption) | (with_reducible refine bl_alloc ?_ _) | (with_reducible refine bl_drew ?_) | (with_reducible refine bl_drewN ?_ _) | (with_reducible refine bl_set ?_ (by first | (simp; done) | (simp; omega)) _) | (with_reducible refine bl_trans ?_ ‹_›)))
  have hsz : (w.alloc (Obj.cells ((u16V G).toArray) 49)).heap.size = w.heap.size + 1 := by simp
  generalize w.alloc (Obj.cells ((u16V G).toArray) 49) = w0 at *
  go_loopw [4, 5, 6] (fun vf vt vi wr => ∃ i : Nat, i ≤ 8 ∧ vi = .int .i64 i ∧ vf = .int .i64 ((progAt (zeros G) i).1 : Nat) ∧ vt = .int .i64 ((progAt (zeros G) i).2 : Nat) ∧ Blk wr w.heap.size 49 (u16V G).toArray ∧ Below w.heap.size w wr) (fun _ _ i _ => 8 - (intOf i).toNat)
  case atStart => exact ⟨0, by omega, rfl, rfl, rfl, hA, hbel⟩
  case round =>
    clear hA hbel
    obtain ⟨i, hi, rfl, rfl, rfl, hA, hbel⟩ := hrel
    by_cases hlt : i < 8
    · have d1 : (i : Int) < 8 := by omega
      go_wp2_with fail
      go_loopw [7] (fun vk wr => ∃ k : Nat, i ≤ k ∧ k ≤ 8 ∧ vk = .int .i64 k ∧ (∀ j, i ≤ j → j < k → (zeros G)[j]? = some true) ∧ Blk wr w.heap.size 49 (u16V G).toArray ∧ Below w.heap.size w wr) (fun k _ => 8 - (intOf k).toNat)
      case atStart => exact ⟨i, by omega, by omega, rfl, fun j a b => absurd b (by omega), hA, hbel⟩
      case round =>
        clear hA hbel
        obtain ⟨k, hik, hk, rfl, hall, hA, hbel⟩ := hrel
        have HALL := Lib.hid hall
        clear hall
        have key : (k < 8 ∧ (zeros G)[k]? = some true) ∨ (runAt ((zeros G).drop i) = k - i) := by
          by_cases h8 : k < 8
          · by_cases hz : (zeros G)[k]? = some true
            · exact .inl ⟨h8, hz⟩
            · exact .inr (runAt_is (k - i) i (fun j a b => HALL.out j a (by omega)) (by rw [show i + (k - i) = k by omega]; exact hz))
          · refine .inr (runAt_is (k - i) i (fun j a b => HALL.out j a (by omega)) ?_)
            rw [show i + (k - i) = k by omega, List.getElem?_eq_none (by rw [HZL.out]; omega)]
            simp
        have hrd : ∀ h : k < 8, ∃ x, G[k]? = some x ∧ x < 65536 := fun h => ⟨_, List.getElem?_eq_getElem (by rw [HL.out]; exact h), HLT.out _ (List.getElem_mem _)⟩
        rcases key with ⟨h8, hz⟩ | hrun
        · have d2 : (k : Int) < 8 := by omega
          obtain ⟨x, hx, hx6⟩ := hrd h8
          have hxz : x = 0 := by
            rw [zeros_at hx] at hz
            simpa using hz
          subst hxz
          have c0 := (hA.cell k).trans (u16_at hx)
          have HNEXT : Hid (∀ j, i ≤ j → j < k + 1 → (zeros G)[j]? = some true) := Lib.hid (fun j a b => by
            by_cases e : j = k
            · subst e; exact hz
            · exact HALL.out j a (by omega))
          clear hz hx hrd
          go_wp2_with fail
          go_roundw
          case rel => exact ⟨k + 1, by omega, by omega, by go_num, HNEXT.out, (by repeat (first | (with_reducible assumption) | (with_reducible refine blk_fill (u := .int .u64 0) (v := .int .u64 0) ?_) | (with_reducible refine Blk.drew ?_) | (with_reducible refine Blk.new' _ _ _ _ (by first | (with_reducible rfl) | (simp; done))) | (with_reducible refine Blk.alloc ?_ _) | (with_reducible refine Blk.after ?_ ‹_›) | (with_reducible refine Blk.far ?_ (by first | (simp; done) | (simp; omega)) _))), (by repeat (first | (with_reducible exact Below.refl _ _) | (with_reducible assumption) | (with_reducible refine bl_alloc ?_ _) | (with_reducible refine bl_drew ?_) | (with_reducible refine bl_drewN ?_ _) | (with_reducible refine bl_set ?_ (by first | (simp; done) | (simp; omega)) _) | (with_reducible refine bl_trans ?_ ‹_›)))⟩
          case measure => simp [intOf]; omega
        · have hex : k = 8 ∨ (k < 8 ∧ ∃ x, G[k]? = some x ∧ x < 65536 ∧ x ≠ 0) := by
            by_cases h8 : k < 8
            · obtain ⟨x, hx, hx6⟩ := hrd h8
              exact .inr ⟨h8, x, hx, hx6, run_exit hrun hik HALL.out hx⟩
            · exact .inl (by omega)
          clear hrd
          have HEX := Lib.hid hex
          clear hex
          have hst : progAt (zeros G) (i + 1) = if (progAt (zeros G) i).2 - (progAt (zeros G) i).1 < k - i ∧ 1 < k - i then (i, k) else progAt (zeros G) i := by
            rw [progAt_succ]
            unfold stepRow
            rw [hrun, show i + (k - i) = k by omega]
          have HST := Lib.hid hst
          obtain ⟨hb1, hb2⟩ := progAt_bd (z := zeros G) HZL.out i (by omega)
          generalize progAt (zeros G) i = p at *
          obtain ⟨f, t⟩ := p
          simp only at hb1 hb2
          have hc : (((t : Int) - f < (k : Int) - i ∧ (1 : Int) < (k : Int) - i) ∧ (progAt (zeros G) (i + 1)).1 = i ∧ (progAt (zeros G) (i + 1)).2 = k) ∨ ((t : Int) - f < (k : Int) - i ∧ ¬ (1 : Int) < (k : Int) - i ∧ (progAt (zeros G) (i + 1)).1 = f ∧ (progAt (zeros G) (i + 1)).2 = t) ∨ (¬ (t : Int) - f < (k : Int) - i ∧ (progAt (zeros G) (i + 1)).1 = f ∧ (progAt (zeros G) (i + 1)).2 = t) := by
            rw [HST.out]
            simp only
            by_cases q1 : t - f < k - i
            · by_cases q2 : 1 < k - i
              · rw [if_pos ⟨q1, q2⟩]; exact .inl ⟨⟨by omega, by omega⟩, rfl, rfl⟩
              · rw [if_neg (fun q => q2 q.2)]; exact .inr (.inl ⟨by omega, by omega, rfl, rfl⟩)
            · rw [if_neg (fun q => q1 q.1)]; exact .inr (.inr ⟨by omega, rfl, rfl⟩)
          clear hst hrun HALL
          rcases HEX.out with rfl | ⟨h8, x, hx, hx6, hx0⟩
          · have d2 : ¬ (8 : Int) < 8 := by omega
            rcases hc with ⟨⟨d3, d4⟩, e1, e2⟩ | ⟨d3, d4, e1, e2⟩ | ⟨d3, e1, e2⟩
            all_goals
              have E1 := Lib.hid e1
              have E2 := Lib.hid e2
              clear e1 e2
              go_wp2_with fail
              go_roundw
              case rel => exact ⟨i + 1, by omega, by go_num, by first | (rw [E1.out]; done) | (rw [E1.out]; rfl), by first | (rw [E2.out]; done) | (rw [E2.out]; rfl), (by repeat (first | (with_reducible assumption) | (with_reducible refine blk_fill (u := .int .u64 0) (v := .int .u64 0) ?_) | (with_reducible refine Blk.drew ?_) | (with_reducible refine Blk.new' _ _ _ _ (by first | (with_reducible rfl) | (simp; done))) | (with_reducible refine Blk.alloc ?_ _) | (with_reducible refine Blk.after ?_ ‹_›) | (with_reducible refine Blk.far ?_ (by first | (simp; done) | (simp; omega)) _))), (by repeat (first | (with_reducible exact Below.refl _ _) | (with_reducible assumption) | (with_reducible refine bl_alloc ?_ _) | (with_reducible refine bl_drew ?_) | (with_reducible refine bl_drewN ?_ _) | (with_reducible refine bl_set ?_ (by first | (simp; done) | (simp; omega)) _) | (with_reducible refine bl_trans ?_ ‹_›)))⟩
              case measure => simp [intOf]; omega
          · have d2 : (k : Int) < 8 := by omega
            have c0 := (hA.cell k).trans (u16_at hx)
            have d5 : ((x : Int) == 0) = false := by simp; omega
            clear hx
            rcases hc with ⟨⟨d3, d4⟩, e1, e2⟩ | ⟨d3, d4, e1, e2⟩ | ⟨d3, e1, e2⟩
            all_goals
              have E1 := Lib.hid e1
              have E2 := Lib.hid e2
              clear e1 e2
              go_wp2_with fail
              go_roundw
              case rel => exact ⟨i + 1, by omega, by go_num, by first | (rw [E1.out]; done) | (rw [E1.out]; rfl), by first | (rw [E2.out]; done) | (rw [E2.out]; rfl), (by repeat (first | (with_reducible assumption) | (with_reducible refine blk_fill (u := .int .u64 0) (v := .int .u64 0) ?_) | (with_reducible refine Blk.drew ?_) | (with_reducible refine Blk.new' _ _ _ _ (by first | (with_reducible rfl) | (simp; done))) | (with_reducible refine Blk.alloc ?_ _) | (with_reducible refine Blk.after ?_ ‹_›) | (with_reducible refine Blk.far ?_ (by first | (simp; done) | (simp; omega)) _))), (by repeat (first | (with_reducible exact Below.refl _ _) | (with_reducible assumption) | (with_reducible refine bl_alloc ?_ _) | (with_reducible refine bl_drew ?_) | (with_reducible refine bl_drewN ?_ _) | (with_reducible refine bl_set ?_ (by first | (simp; done) | (simp; omega)) _) | (with_reducible refine bl_trans ?_ ‹_›)))⟩
              case measure => simp [intOf]; omega
    · obtain rfl : i = 8 := by omega
      have d1 : ¬ (8 : Int) < 8 := by omega
      have he : progAt (zeros G) 8 = progRow (zeros G) := progAt_end _
      rw [he]
      go_wp2_with fail
      go_ret2
      exact ⟨rfl, hbel⟩
theorem slice_lo (a f : Nat) (hf : f ≤ 8) (w : World) : (Instr.sliceAt 49 (.pointer (some ⟨a, 0, none⟩)) none (some (.int .i64 (f : Nat))) none).run Tryd.prog w = .ok (.slice (some ⟨a, 0, none⟩) f 8) w := by
  have hlen : Tryd.prog.arrayLen 49 = 8 := by kernel_rfl
  rw [run_sliceAt_array_h w 49 ⟨a, 0, none⟩ (by kernel_rfl) .i64 _ (by omega) (by rw [hlen]; omega), hlen]
  have hs : (sizeOf (Tryd.prog.elem 49)).run Tryd.prog w = .ok 1 w := by kernel_rfl
  rw [hs]
  show Result.ok (slicedAt _ _ _ _ _) w = _
  unfold slicedAt Addr.add
  simp
theorem slice_hi (a t : Nat) (ht : t ≤ 8) (w : World) : (Instr.sliceAt 49 (.pointer (some ⟨a, 0, none⟩)) (some (.int .i64 (t : Nat))) none none).run Tryd.prog w = .ok (.slice (some ⟨a, if t = 8 then 0 else t, none⟩) (8 - t) (8 - t)) w := by
  have hlen : Tryd.prog.arrayLen 49 = 8 := by kernel_rfl
  rw [run_sliceAt_array_l w 49 ⟨a, 0, none⟩ (by kernel_rfl) .i64 _ (by omega) (by rw [hlen]; omega), hlen]
  have hs : (sizeOf (Tryd.prog.elem 49)).run Tryd.prog w = .ok 1 w := by kernel_rfl
  rw [hs]
  show Result.ok (slicedAt _ _ _ _ _) w = _
  unfold slicedAt Addr.add
  simp only [Int.toNat_natCast]
  by_cases h : t = 8
  · subst h; rfl
  · rw [if_neg (by omega), if_neg h]; simp; omega
theorem words_blk {G : List Nat} {g : Nat} {w0 : World} (hl : G.length = 8) (hG6 : ∀ x ∈ G, x < 65536) (hB : Blk w0 g 49 (u16V G).toArray) (hG : Glob w0) (f t : Nat) (hf : f ≤ 8) (ht : t ≤ 8) :
    (∀ w, Below w0.heap.size w0 w → Calls Tryd.prog 29 #[.slice (some ⟨g, 0, none⟩) f 8] w fun e w' => e = .returned (.string ⟨(joinH (G.take f)).toArray⟩) ∧ Below w0.heap.size w0 w') ∧
    (∀ w, Below w0.heap.size w0 w → Calls Tryd.prog 29 #[.slice (some ⟨g, if t = 8 then 0 else t, none⟩) (8 - t) (8 - t)] w fun e w' => e = .returned (.string ⟨(joinH (G.drop t)).toArray⟩) ∧ Below w0.heap.size w0 w') := by
  constructor
  · intro w hb
    refine (words_c g 0 f 8 (G.take f) w (by simp; omega) hf (fun x hx => hG6 x (List.mem_of_mem_take hx)) (fun j hj => ?_) (hB.after hb).lt (hG.after hb)).mono fun e w' h => ⟨h.1, bl_trans hb h.2⟩
    have hj2 : j < f := by simp at hj; omega
    rw [Nat.zero_add, (hB.after hb).cell, u16_at (List.getElem?_eq_getElem (by omega : j < G.length))]
    simp
  · intro w hb
    refine (words_c g (if t = 8 then 0 else t) (8 - t) (8 - t) (G.drop t) w (by simp; omega) (by omega) (fun x hx => hG6 x (List.mem_of_mem_drop hx)) (fun j hj => ?_) (hB.after hb).lt (hG.after hb)).mono fun e w' h => ⟨h.1, bl_trans hb h.2⟩
    have hj2 : j < 8 - t := by simp at hj; omega
    rw [if_neg (by omega), (hB.after hb).cell, u16_at (List.getElem?_eq_getElem (by omega : t + j < G.length))]
    simp
theorem bytes_app (a b : List UInt8) : (⟨a.toArray⟩ : ByteArray) ++ ⟨b.toArray⟩ = ⟨(a ++ b).toArray⟩ := by
  apply ByteArray.ext
  simp
/-- an address's text; none: it may not be -/
def printA (v : Bool) (n : Nat) : List UInt8 := if rightB v n = true then (if v = true then print6 (grps n) (progRow (zeros (grps n))).1 (progRow (zeros (grps n))).2 else print4 n) else []
theorem right_false {n : Nat} (h : rightB false n = true) : n < 4294967296 := by
  unfold rightB at h
  have := of_decide_eq_true h
  exact this
set_option maxRecDepth 100000 in
set_option maxHeartbeats 3200000 in
theorem print_c (v : Bool) (n : Nat) (w : World) (hn : n < 340282366920938463463374607431768211456) (hG : Glob w) :
    Calls Tryd.prog 9 #[AddrV v n] w fun e w' => e = .returned (.string ⟨(printA v n).toArray⟩) ∧ Below w.heap.size w w' := by
  have HR := Lib.hid (fun w => right_c v n w hn)
  unfold printA
  by_cases hr : rightB v n = true
  · rw [hr] at HR
    rw [if_pos hr]
    cases v
    · have HP := Lib.hid (fun w hG => print4_c n w (right_false hr) hG)
      rw [if_neg (by simp)]
      rw [AddrV_eq] at *
      unfold AddrC at *
      go_enter Tryd.func9, Tryd.ntmps9
      go_wp2_with fail
      have hA : Blk (w.alloc (Obj.cells #[.bool false, .int .u64 (hi n), .int .u64 (lo n)] 26)) (w.heap.size) 26 (AddrC false n) := (Blk.new' _ _ _ _ (by simp) : Blk (w.alloc (Obj.cells #[.bool false, .int .u64 (hi n), .int .u64 (lo n)] 26)) (w.heap.size) 26 (AddrC false n))
      have hbel : Below w.heap.size w (w.alloc (Obj.cells #[.bool false, .int .u64 (hi n), .int .u64 (lo n)] 26)) := (by repeat (first | (with_reducible exact Below.refl _ _) | (with_reducible assumption) | (with_reducible refine bl_alloc ?_ _) | (with_reducible refine bl_drew ?_) | (with_reducible refine bl_drewN ?_ _) | (with_reducible refine bl_set ?_ (by first | (simp; done) | (simp; omega)) _) | (with_reducible refine bl_trans ?_ ‹_›)))
      replace hG := hG.after hbel
      have hsz : (w.alloc (Obj.cells #[.bool false, .int .u64 (hi n), .int .u64 (lo n)] 26)).heap.size = w.heap.size + 1 := by simp
      generalize w.alloc (Obj.cells #[.bool false, .int .u64 (hi n), .int .u64 (lo n)] 26) = w0 at *
      refine (HR.out _).mono ?_
      rintro e w1 ⟨rfl, hb⟩
      (try clear c0 c1 c2 cz0 cz1 cz2 cz3)
      replace hA := hA.after hb
      obtain ⟨c0, c1, c2, _⟩ := blk_adr hA
      have cz0 := hA.frozen 0
      have cz1 := hA.frozen 1
      have cz2 := hA.frozen 2
      replace hG := hG.after hb
      replace hbel := bl_trans hbel hb
      clear hb
      go_wp2_with fail
      refine (HP.out _ hG).mono ?_
      rintro e w2 ⟨rfl, hb⟩
      replace hA := hA.after hb
      replace hG := hG.after hb
      replace hbel := bl_trans hbel hb
      clear hb
      go_wp2_with fail
      go_ret
      exact ⟨rfl, hbel⟩
    · rw [if_pos rfl]
      have HP := Lib.hid (fun w => pieces_c true n w hn)
      have HRO := Lib.hid (fun w => row_c (grps n) w (grps_len n) (fun g hg => grps_lt hg))
      obtain ⟨a0, a1, a2, a3, a4, a5, a6, a7, hgr⟩ : ∃ a0 a1 a2 a3 a4 a5 a6 a7, grps n = [a0, a1, a2, a3, a4, a5, a6, a7] := ⟨_, _, _, _, _, _, _, _, rfl⟩
      rw [hgr] at HP HRO ⊢
      simp only [u16V, List.map] at HP HRO
      rw [AddrV_eq] at *
      unfold AddrC at *
      go_enter Tryd.func9, Tryd.ntmps9
      go_wp2_with fail
      have hA : Blk (w.alloc (Obj.cells #[.bool true, .int .u64 (hi n), .int .u64 (lo n)] 26)) (w.heap.size) 26 (AddrC true n) := (Blk.new' _ _ _ _ (by simp) : Blk (w.alloc (Obj.cells #[.bool true, .int .u64 (hi n), .int .u64 (lo n)] 26)) (w.heap.size) 26 (AddrC true n))
      have hbel : Below w.heap.size w (w.alloc (Obj.cells #[.bool true, .int .u64 (hi n), .int .u64 (lo n)] 26)) := (by repeat (first | (with_reducible exact Below.refl _ _) | (with_reducible assumption) | (with_reducible refine bl_alloc ?_ _) | (with_reducible refine bl_drew ?_) | (with_reducible refine bl_drewN ?_ _) | (with_reducible refine bl_set ?_ (by first | (simp; done) | (simp; omega)) _) | (with_reducible refine bl_trans ?_ ‹_›)))
      replace hG := hG.after hbel
      have hsz : (w.alloc (Obj.cells #[.bool true, .int .u64 (hi n), .int .u64 (lo n)] 26)).heap.size = w.heap.size + 1 := by simp
      generalize w.alloc (Obj.cells #[.bool true, .int .u64 (hi n), .int .u64 (lo n)] 26) = w0 at *
      refine (HR.out _).mono ?_
      rintro e w1 ⟨rfl, hb⟩
      (try clear c0 c1 c2 cz0 cz1 cz2 cz3)
      replace hA := hA.after hb
      obtain ⟨c0, c1, c2, _⟩ := blk_adr hA
      have cz0 := hA.frozen 0
      have cz1 := hA.frozen 1
      have cz2 := hA.frozen 2
      replace hG := hG.after hb
      replace hbel := bl_trans hbel hb
      clear hb
      go_wp2_with fail
      refine (HP.out _).mono ?_
      rintro e w2 ⟨rfl, hb⟩
      replace hA := hA.after hb
      replace hG := hG.after hb
      replace hbel := bl_trans hbel hb
      clear hb
      go_wp2_with fail
      have hL : Blk (w2.alloc (Obj.cells #[.int .u16 (a0 : Nat), .int .u16 (a1 : Nat), .int .u16 (a2 : Nat), .int .u16 (a3 : Nat), .int .u16 (a4 : Nat), .int .u16 (a5 : Nat), .int .u16 (a6 : Nat), .int .u16 (a7 : Nat)] 49)) (w2.heap.size) 49 #[.int .u16 (a0 : Nat), .int .u16 (a1 : Nat), .int .u16 (a2 : Nat), .int .u16 (a3 : Nat), .int .u16 (a4 : Nat), .int .u16 (a5 : Nat), .int .u16 (a6 : Nat), .int .u16 (a7 : Nat)] := (Blk.new' _ _ _ _ (by simp) : Blk (w2.alloc (Obj.cells #[.int .u16 (a0 : Nat), .int .u16 (a1 : Nat), .int .u16 (a2 : Nat), .int .u16 (a3 : Nat), .int .u16 (a4 : Nat), .int .u16 (a5 : Nat), .int .u16 (a6 : Nat), .int .u16 (a7 : Nat)] 49)) (w2.heap.size) 49 #[.int .u16 (a0 : Nat), .int .u16 (a1 : Nat), .int .u16 (a2 : Nat), .int .u16 (a3 : Nat), .int .u16 (a4 : Nat), .int .u16 (a5 : Nat), .int .u16 (a6 : Nat), .int .u16 (a7 : Nat)])
      have hbn : Below w2.heap.size w2 (w2.alloc (Obj.cells #[.int .u16 (a0 : Nat), .int .u16 (a1 : Nat), .int .u16 (a2 : Nat), .int .u16 (a3 : Nat), .int .u16 (a4 : Nat), .int .u16 (a5 : Nat), .int .u16 (a6 : Nat), .int .u16 (a7 : Nat)] 49)) := (by repeat (first | (with_reducible exact Below.refl _ _) | (with_reducible assumption) | (with_reducible refine bl_alloc ?_ _) | (with_reducible refine bl_drew ?_) | (with_reducible refine bl_drewN ?_ _) | (with_reducible refine bl_set ?_ (by first | (simp; done) | (simp; omega)) _) | (with_reducible refine bl_trans ?_ ‹_›)))
      replace hG := hG.after hbn
      replace hA := hA.after hbn
      replace hbel := bl_trans hbel hbn
      clear hbn
      (try clear hsz)
      have hsz : (w2.alloc (Obj.cells #[.int .u16 (a0 : Nat), .int .u16 (a1 : Nat), .int .u16 (a2 : Nat), .int .u16 (a3 : Nat), .int .u16 (a4 : Nat), .int .u16 (a5 : Nat), .int .u16 (a6 : Nat), .int .u16 (a7 : Nat)] 49)).heap.size = w2.heap.size + 1 := by simp
      generalize w2.alloc (Obj.cells #[.int .u16 (a0 : Nat), .int .u16 (a1 : Nat), .int .u16 (a2 : Nat), .int .u16 (a3 : Nat), .int .u16 (a4 : Nat), .int .u16 (a5 : Nat), .int .u16 (a6 : Nat), .int .u16 (a7 : Nat)] 49) = w3 at *
      refine (HRO.out _).mono ?_
      rintro e w4 ⟨rfl, hb⟩
      replace hL := hL.after hb
      replace hG := hG.after hb
      replace hbel := bl_trans hbel hb
      clear hb
      obtain ⟨rx1, r2, r3, rx2, rx3⟩ := rows_of (G := [a0, a1, a2, a3, a4, a5, a6, a7]) rfl
      obtain ⟨f, hF⟩ : ∃ f, (progRow (zeros [a0, a1, a2, a3, a4, a5, a6, a7])).1 = f := ⟨_, rfl⟩
      obtain ⟨t, hT⟩ : ∃ f, (progRow (zeros [a0, a1, a2, a3, a4, a5, a6, a7])).2 = f := ⟨_, rfl⟩
      have HF := Lib.hid hF
      have HT := Lib.hid hT
      rw [hF, hT] at r2
      rw [hT] at r3
      rw [hF, hT]
      clear hF hT rx1 rx2 rx3
      have h6 : ∀ x ∈ [a0, a1, a2, a3, a4, a5, a6, a7], x < 65536 := fun x hx => grps_lt (hgr ▸ hx)
      obtain ⟨hw1, hw2⟩ := words_blk (G := [a0, a1, a2, a3, a4, a5, a6, a7]) rfl h6 hL hG f t (by omega) r3
      obtain ⟨hw3, hw4⟩ := words_blk (G := [a0, a1, a2, a3, a4, a5, a6, a7]) rfl h6 hL hG 8 t (by omega) r3
      have hjl : ∀ L : List Nat, L.length ≤ 8 → (⟨(joinH L).toArray⟩ : ByteArray).size ≤ 1000 := fun L hL => by
        have := join_len (c := [58]) (m := 4) (l := L.map hexD) (fun p hp => by
          obtain ⟨x, _, rfl⟩ := List.mem_map.1 hp
          exact hexD_len x)
        rw [List.length_map] at this
        show (joinH L).toArray.size ≤ 1000
        rw [List.size_toArray]
        refine Nat.le_trans this ?_
        simp; omega
      have hz1 := hjl ([a0, a1, a2, a3, a4, a5, a6, a7].take f) (by simp; omega)
      have hz2 := hjl ([a0, a1, a2, a3, a4, a5, a6, a7].drop t) (by simp)
      obtain ⟨S1, hS1⟩ : ∃ S : ByteArray, (⟨(joinH ([a0, a1, a2, a3, a4, a5, a6, a7].take f)).toArray⟩ : ByteArray) = S := ⟨_, rfl⟩
      obtain ⟨S2, hS2⟩ : ∃ S : ByteArray, (⟨(joinH ([a0, a1, a2, a3, a4, a5, a6, a7].drop t)).toArray⟩ : ByteArray) = S := ⟨_, rfl⟩
      obtain ⟨S3, hS3⟩ : ∃ S : ByteArray, (⟨(joinH ([a0, a1, a2, a3, a4, a5, a6, a7].take 8)).toArray⟩ : ByteArray) = S := ⟨_, rfl⟩
      rw [hS1] at hw1 hz1
      rw [hS2] at hw2 hz2
      rw [hS3] at hw3
      have hpr : (⟨(print6 [a0, a1, a2, a3, a4, a5, a6, a7] (progRow (zeros [a0, a1, a2, a3, a4, a5, a6, a7])).1 (progRow (zeros [a0, a1, a2, a3, a4, a5, a6, a7])).2).toArray⟩ : ByteArray) = if f = t then S3 else S1 ++ ⟨#[58, 58]⟩ ++ S2 := by
        rw [HF.out, HT.out]
        unfold print6
        by_cases h : f = t
        · rw [if_pos h, if_pos h, ← hS3]; rfl
        · rw [if_neg h, if_neg h, ← hS1, ← hS2]
          show _ = _ ++ (⟨[58, 58].toArray⟩ : ByteArray) ++ _
          rw [bytes_app, bytes_app]
          simp
      have HPR := Lib.hid hpr
      clear hS1 hS2 hS3 hpr hjl
      have hs1 := slice_lo w2.heap.size f (by omega)
      have hs2 := slice_hi w2.heap.size t r3
      have hbs : Below w4.heap.size w4 w4 := Below.refl _ _
      generalize (if t = 8 then 0 else t) = o2 at *
      generalize 8 - t = n2 at *
      have HW1 := Lib.hid hw1
      have HW2 := Lib.hid hw2
      have HW3 := Lib.hid hw3
      clear hw1 hw2 hw3 hw4 h6 HRO HP HR hgr HF HT
      by_cases hft : f = t
      · have d : ((f : Int) == t) = true := by simp; omega
        go_wp2_with fail
        refine (HW3.out _ hbs).mono ?_
        rintro e wx ⟨rfl, hbx⟩
        go_wp2_with fail
        go_ret
        refine ⟨?_, bl_trans hbel hbx⟩
        rw [HPR.out, if_pos hft]; rfl
      · have d : ((f : Int) == t) = false := by simp; omega
        go_wp2_with fail
        have hq1 : S1.size ≤ 9223372036854775805 := by omega
        have hq2 : S1.size + 2 + S2.size ≤ 9223372036854775807 := by omega
        have hcat1 : ∀ w, (Op.stringOp .add S1 ⟨#[58, 58]⟩).run Tryd.prog w = .ok (.string (S1 ++ ⟨#[58, 58]⟩)) w := fun w => run_string_add w S1 ⟨#[58, 58]⟩ (by omega) (by decide)
        have hcat2 : ∀ w, (Op.stringOp .add (S1 ++ ⟨#[58, 58]⟩) S2).run Tryd.prog w = .ok (.string (S1 ++ ⟨#[58, 58]⟩ ++ S2)) w := fun w => run_string_add w _ S2 (by rw [ByteArray.size_append]; show ((S1.size + 2 : Nat) : Int) ≤ _; omega) (by omega)
        clear hz1 hz2
        go_region_held3 (fun w' => Below w4.heap.size w4 w') (exact (by repeat (first | (with_reducible exact Below.refl _ _) | (with_reducible assumption) | (with_reducible refine bl_alloc ?_ _) | (with_reducible refine bl_drew ?_) | (with_reducible refine bl_drewN ?_ _) | (with_reducible refine bl_set ?_ (by first | (simp; done) | (simp; omega)) _) | (with_reducible refine bl_trans ?_ ‹_›))))
          (first
          | (with_reducible refine (HW1.out _ ‹_›).mono ?_; rintro e wx ⟨rfl, hbx⟩)
          | (with_reducible refine (HW2.out _ ‹_›).mono ?_; rintro e wx ⟨rfl, hbx⟩))
        all_goals
          go_wp2_with fail
          go_ret
          exact ⟨by rw [HPR.out, if_neg hft]; rfl, bl_trans hbel ‹_›⟩
  · have hr' : rightB v n = false := by simpa using hr
    rw [hr'] at HR
    rw [if_neg hr]
    rw [AddrV_eq] at *
    unfold AddrC at *
    go_enter Tryd.func9, Tryd.ntmps9
    go_wp2_with fail
    refine (HR.out _).mono ?_
    rintro e w1 ⟨rfl, hb1⟩
    go_wp2_with fail
    go_ret
    exact ⟨rfl, (by repeat (first | (with_reducible exact Below.refl _ _) | (with_reducible assumption) | (with_reducible refine bl_alloc ?_ _) | (with_reducible refine bl_drew ?_) | (with_reducible refine bl_drewN ?_ _) | (with_reducible refine bl_set ?_ (by first | (simp; done) | (simp; omega)) _) | (with_reducible refine bl_trans ?_ ‹_›)))⟩
end Go.Proofs.YtgdgklibilddgaaDoor
