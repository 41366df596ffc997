/- Addresses: a group in base 16. -/
import Derived.Test.YtgdgklibilddgaaDoorAdG
namespace Go.Proofs.YtgdgklibilddgaaDoor
open Go.RowKit

set_option maxRecDepth 20000 in
theorem tz64_16 (w : World) (hG : Glob w) :
    Calls Tryd.prog 122 #[.int .u64 16] w fun e w' => e = .returned (.int .i64 4) ∧ w = w' := by
  have ha : bits .and .u64 (16 : Int) (IntKind.u64.wrap (-(16 : Int))) = 16 := by decide +kernel
  have hc : w.cell? ⟨5, 15, none⟩ = some (.int .u8 4) := by
    rw [hG.bru 15 (by decide)]; rfl
  go_enter Tryd.func122, Tryd.ntmps122
  go_wp2_with fail
  go_ret
  exact ⟨rfl, rfl⟩
set_option maxRecDepth 20000 in
theorem tz16_c (w : World) (hG : Glob w) :
    Calls Tryd.prog 113 #[.int .u64 16] w fun e w' => e = .returned (.int .i64 4) ∧ w = w' := by
  have HT := Lib.hid (fun w hG => tz64_16 w hG)
  go_enter Tryd.func113, Tryd.ntmps113
  go_wp2_with (go_at_call 122; refine (HT.out _ hG).mono ?_; rintro e w1 ⟨rfl, rfl⟩)
  go_ret
  exact ⟨rfl, rfl⟩
set_option maxRecDepth 20000 in
theorem pow2_c (w : World) :
    Calls Tryd.prog 112 #[.int .i64 16] w fun e w' => e = .returned (.bool true) ∧ w = w' := by
  have ha : bits .and .i64 (16 : Int) (15 : Int) = 0 := by decide +kernel
  go_enter Tryd.func112, Tryd.ntmps112
  go_wp2_with fail
  go_ret
  exact ⟨rfl, rfl⟩
/-- the row of signs, filled from its end -/
def pad (l : List Nat) : List Value := List.replicate (65 - l.length) (.int .u8 0) ++ l.map fun c => .int .u8 (c : Nat)
theorem pad_put {l : List Nat} {c : Nat} (h : l.length < 65) : (pad l).toArray.setIfInBounds (64 - l.length) (.int .u8 (c : Nat)) = (pad (c :: l)).toArray := by
  rw [List.setIfInBounds_toArray]
  congr 1
  unfold pad
  rw [List.set_append_left _ _ (by rw [List.length_replicate]; omega)]
  rw [show 65 - l.length = (64 - l.length) + 1 by omega, List.replicate_succ']
  rw [List.set_append_right _ _ (by rw [List.length_replicate]; omega), List.length_replicate, Nat.sub_self]
  simp
theorem hexD_step {u : Nat} (h : 16 ≤ u) (h2 : u < 65536) : hexD u = hexD (u / 16) ++ [hexC (u % 16)] := by
  unfold hexD
  rw [if_neg (by omega)]
  by_cases h3 : u < 256
  · rw [if_pos h3, if_pos (by omega)]; rfl
  rw [if_neg h3]
  by_cases h4 : u < 4096
  · rw [if_pos h4, if_neg (by omega), if_pos (by omega), show u / 16 / 16 = u / 256 by omega]; rfl
  · rw [if_neg h4, if_neg (by omega), if_neg (by omega), if_pos (by omega), show u / 16 / 256 = u / 4096 by omega, show u / 16 / 16 % 16 = u / 256 % 16 by omega]; rfl
theorem sgn_at : ∀ d (h : d < 16), ((⟨#[48, 49, 50, 51, 52, 53, 54, 55, 56, 57, 97, 98, 99, 100, 101, 102, 103, 104, 105, 106, 107, 108, 109, 110, 111, 112, 113, 114, 115, 116, 117, 118, 119, 120, 121, 122]⟩ : ByteArray)[d]'(by show d < 36; omega)).toNat = (hexC d).toNat := by decide
/-- so many signs are written, so much of the number is left -/
def Left (u : Nat) (l : List Nat) : Prop := (l.length = 0 ∧ u < 65536) ∨ (l.length = 1 ∧ u < 4096) ∨ (l.length = 2 ∧ u < 256) ∨ (l.length = 3 ∧ u < 16)
theorem and15 (u : Nat) (hu : u < 65536) : bits .and .u64 (u : Int) (15 : Int) = ((u % 16 : Nat) : Int) := by
  have h := bits_and_u64_nat u 15 (by omega) (by omega)
  rw [show ((15 : Nat) : Int) = 15 from rfl] at h
  rw [h, show (15 : Nat) = 2 ^ 4 - 1 by decide, Nat.and_two_pow_sub_one_eq_mod]
theorem slice65 (a k : Nat) (hk : k ≤ 3) (w : World) : (Instr.sliceAt 139 (.pointer (some ⟨a, 0, none⟩)) (some (.int .i64 (65 - (k : Int) - 1))) none none).run Tryd.prog w = .ok (.slice (some ⟨a, 65 - k - 1, none⟩) (k + 1) (k + 1)) w := by
  have hlen : Tryd.prog.arrayLen 139 = 65 := by kernel_rfl
  rw [run_sliceAt_array_l w 139 ⟨a, 0, none⟩ (by kernel_rfl) .i64 _ (by omega) (by rw [hlen]; omega), hlen]
  have hs : (sizeOf (Tryd.prog.elem 139)).run Tryd.prog w = .ok 1 w := by kernel_rfl
  rw [hs]
  have e1 : (65 - (k : Int) - 1).toNat = 65 - k - 1 := by omega
  rw [e1]
  have e2 : 65 - (65 - k - 1) = k + 1 := by omega
  show Result.ok (Value.slice (some (if 65 = 65 - k - 1 then _ else _)) _ _) w = _
  rw [if_neg (by omega), e2]
  unfold Addr.add
  simp
  omega
theorem pad_at {l : List Nat} {i : Nat} (h0 : 0 < l.length) (h65 : l.length ≤ 65) (hi : i < l.length) : (pad l)[65 - l.length + i]? = some (.int .u8 ((ints l).getD i 0)) := by
  unfold pad
  rw [List.getElem?_append_right (by rw [List.length_replicate]; omega), List.length_replicate, Nat.add_sub_cancel_left]
  simp [ints, hi]
theorem txt_back (s : List UInt8) : strOfNums (ints (s.map UInt8.toNat)) = ⟨s.toArray⟩ := by
  apply ByteArray.ext
  apply Array.toList_inj.1
  have := strOfNums_data (ints (s.map UInt8.toNat))
  rw [this]
  unfold ints
  rw [List.map_map, List.map_map]
  show List.map _ s = s
  rw [show (((fun n : Int => UInt8.ofNat n.toNat) ∘ Int.ofNat) ∘ UInt8.toNat) = id from funext fun c => by simp, List.map_id]
set_option maxRecDepth 100000 in
set_option maxHeartbeats 3200000 in
theorem fbits_c (g : Nat) (w : World) (hg : g < 65536) (hG : Glob w) :
    Calls Tryd.prog 94 #[.slice none 0 0, .int .u64 g, .int .i64 16, .bool false, .bool false] w fun e w' => (∃ v, e = .returned (.tuple #[v, .string ⟨(hexD g).toArray⟩])) ∧ Below w.heap.size w w' := by
  go_enter Tryd.func94, Tryd.ntmps94
  go_wp2_with fail
  have hA : Blk (w.alloc (Obj.cells Tryd.zeroCells139 139)) w.heap.size 139 (pad []).toArray := Blk.new _ _ _
  have hbel : Below w.heap.size w (w.alloc (Obj.cells Tryd.zeroCells139 139)) := (by repeat (first | (with_reducible exact Below.refl _ _) | (with_reducible assumption) | (with_reducible refine bl_alloc ?_ _) | (with_reducible refine bl_drew ?_) | (with_reducible refine bl_drewN ?_ _) | (with_reducible refine bl_set ?_ (by first | (simp; done) | (simp; omega)) _) | (with_reducible refine bl_trans ?_ ‹_›)))
  have hG1 : Glob (w.alloc (Obj.cells Tryd.zeroCells139 139)) := hG.after hbel
  generalize w.alloc (Obj.cells Tryd.zeroCells139 139) = w1 at *
  refine (pow2_c _).mono ?_
  rintro e w2 ⟨rfl, rfl⟩
  go_wp2_with fail
  refine (tz16_c _ hG1).mono ?_
  rintro e w2 ⟨rfl, rfl⟩
  go_wp2_with fail
  go_loopw [1, 13] (fun vu vi wr => ∃ (u : Nat) (l : List Nat), vu = .int .u64 u ∧ vi = .int .i64 (65 - (l.length : Int)) ∧ Left u l ∧ (hexD g).map UInt8.toNat = (hexD u).map UInt8.toNat ++ l ∧ Blk wr w.heap.size 139 (pad l).toArray ∧ Below w.heap.size w wr) (fun vu _ _ => (intOf vu).toNat)
  case atStart => exact ⟨g, [], rfl, rfl, .inl ⟨rfl, hg⟩, by simp, hA, hbel⟩
  case round =>
    clear hA hbel hG1
    obtain ⟨u, l, rfl, rfl, hle, hx, hA, hbel⟩ := hrel
    have hl3 : l.length ≤ 3 ∧ u < 65536 := by unfold Left at hle; omega
    obtain ⟨hl3, hu6⟩ := hl3
    have HX := Lib.hid hx
    have HLE := Lib.hid hle
    clear hx hle
    by_cases h16 : 16 ≤ u
    · have d1 : (16 : Int) ≤ u := by omega
      have ha := and15 u hu6
      have hst := hexD_step h16 hu6
      have HST := Lib.hid hst
      have hd : u % 16 < 16 := by omega
      have hcell : ∃ cv, wr.cell? ⟨w.heap.size, 65 - l.length - 1, none⟩ = some cv := ⟨(pad l).toArray[65 - l.length - 1]'(by simp [pad]; omega), by rw [hA.cell]; simp⟩
      obtain ⟨cv, hcell⟩ := hcell
      have hfz := hA.frozen (65 - l.length - 1)
      have HSG := Lib.hid (sgn_at (u % 16) hd)
      have HA : Hid (∀ v : Nat, v = (hexC (u % 16)).toNat → Blk (wr.setCell ⟨w.heap.size, 65 - l.length - 1, none⟩ (.int .u8 (v : Int))) w.heap.size 139 (pad ((hexC (u % 16)).toNat :: l)).toArray ∧ Below w.heap.size w (wr.setCell ⟨w.heap.size, 65 - l.length - 1, none⟩ (.int .u8 (v : Int)))) := Lib.hid (by
        rintro v rfl
        have hpad := pad_put (l := l) (c := (hexC (u % 16)).toNat) (by omega)
        have hA' := hA.put (65 - l.length - 1) (.int .u8 ((hexC (u % 16)).toNat : Nat))
        have hof : 65 - l.length - 1 = 64 - l.length := by omega
        rw [hof, hpad] at hA'
        rw [← hof] at hA'
        exact ⟨hA', bl_set hbel (p := ⟨w.heap.size, 65 - l.length - 1, none⟩) (Nat.le_refl _) _⟩)
      generalize u % 16 = d at *
      clear hst
      go_wp2_with fail
      go_roundw
      case rel =>
        refine ⟨u / 16, (hexC d).toNat :: l, by first | go_num | (congr 1; omega), by first | go_num | (congr 1; simp; omega), ?_, ?_, (HA.out _ HSG.out).1, (HA.out _ HSG.out).2⟩
        · have := HLE.out
          unfold Left at *
          simp only [List.length_cons]
          omega
        · rw [HX.out, HST.out]; simp
      case measure => simp [intOf]; omega
    · have d1 : ¬ (16 : Int) ≤ u := by omega
      have hd : u < 16 := by omega
      have hcell : ∃ cv, wr.cell? ⟨w.heap.size, 65 - l.length - 1, none⟩ = some cv := ⟨(pad l).toArray[65 - l.length - 1]'(by simp [pad]; omega), by rw [hA.cell]; simp⟩
      obtain ⟨cv, hcell⟩ := hcell
      have hfz := hA.frozen (65 - l.length - 1)
      have HSG := Lib.hid (sgn_at (u) hd)
      have HA : Hid (∀ v : Nat, v = (hexC (u)).toNat → Blk (wr.setCell ⟨w.heap.size, 65 - l.length - 1, none⟩ (.int .u8 (v : Int))) w.heap.size 139 (pad ((hexC (u)).toNat :: l)).toArray ∧ Below w.heap.size w (wr.setCell ⟨w.heap.size, 65 - l.length - 1, none⟩ (.int .u8 (v : Int)))) := Lib.hid (by
        rintro v rfl
        have hpad := pad_put (l := l) (c := (hexC (u)).toNat) (by omega)
        have hA' := hA.put (65 - l.length - 1) (.int .u8 ((hexC (u)).toNat : Nat))
        have hof : 65 - l.length - 1 = 64 - l.length := by omega
        rw [hof, hpad] at hA'
        rw [← hof] at hA'
        exact ⟨hA', bl_set hbel (p := ⟨w.heap.size, 65 - l.length - 1, none⟩) (Nat.le_refl _) _⟩)
      have hu1 : hexD u = [hexC u] := by unfold hexD; rw [if_pos hd]
      have HU1 := Lib.hid hu1
      have hsl := slice65 w.heap.size l.length hl3
      have hcv : ∀ v : Nat, v = (hexC u).toNat → (convert 34 9 (.slice (some ⟨w.heap.size, 65 - l.length - 1, none⟩) (l.length + 1) (l.length + 1))).run Tryd.prog (wr.setCell ⟨w.heap.size, 65 - l.length - 1, none⟩ (.int .u8 (v : Int))) = .ok (.string ⟨(hexD g).toArray⟩) (wr.setCell ⟨w.heap.size, 65 - l.length - 1, none⟩ (.int .u8 (v : Int))) := by
        intro v hv
        have hB := (HA.out v hv).1
        have e := HX.out
        rw [hu1] at e
        rw [← txt_back (hexD g), e]
        refine run_convert_bytes_arg _ _ _ Tryd.underlying34 Tryd.underlying5 w.heap.size (65 - l.length - 1) (l.length + 1) (l.length + 1) _ (by simp [ints]) (fun i hi => ?_) _ Tryd.underlying9
        rw [hB.cell]
        have := pad_at (l := (hexC u).toNat :: l) (i := i) (by simp) (by simp; omega) (by simpa using hi)
        rw [show 65 - ((hexC u).toNat :: l).length + i = 65 - l.length - 1 + i by simp; omega] at this
        simpa using this
      have hcv' := hcv _ HSG.out
      clear hu1 hcv
      go_wp2_with fail
      go_ret2
      exact ⟨⟨_, rfl⟩, (HA.out _ HSG.out).2⟩
set_option maxRecDepth 100000 in
theorem fuint_c (g : Nat) (w : World) (hg : g < 65536) (hG : Glob w) :
    Calls Tryd.prog 59 #[.int .u64 g, .int .i64 16] w fun e w' => e = .returned (.string ⟨(hexD g).toArray⟩) ∧ Below w.heap.size w w' := by
  have HF := Lib.hid (fun w hG => fbits_c g w hg hG)
  go_enter Tryd.func59, Tryd.ntmps59
  go_wp2_with fail
  go_enter Tryd.func80, Tryd.ntmps80
  go_wp2_with fail
  refine (HF.out _ hG).mono ?_
  rintro e w1 ⟨⟨v, rfl⟩, hb1⟩
  go_wp2_with fail
  go_ret
  exact ⟨rfl, hb1⟩
end Go.Proofs.YtgdgklibilddgaaDoor
