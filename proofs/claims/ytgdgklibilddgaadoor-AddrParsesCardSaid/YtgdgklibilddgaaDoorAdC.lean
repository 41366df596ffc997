/- Addresses: groups of base 16 read. -/
import Derived.Test.YtgdgklibilddgaaDoorAdB
import Derived.Lib.ConvBytes
import Derived.Outline
namespace Go.Proofs.YtgdgklibilddgaaDoor
open Go.RowKit

theorem digit_c (c : UInt8) (w : World) :
    Calls Tryd.prog 64 #[.int .u8 (c.toNat : Int)] w fun e w' => e = .returned (.bool (hexV c).isSome) ∧ Below w.heap.size w w' := by
  have hc := c.toNat_lt
  unfold hexV
  generalize c.toNat = n at *
  by_cases a1 : 48 ≤ n
  · have d1 : decide ((48 : Int) ≤ n) = true := decide_eq_true (by omega)
    by_cases a2 : n ≤ 57
    · have d2 : decide ((n : Int) ≤ 57) = true := decide_eq_true (by omega)
      rw [if_pos ⟨a1, a2⟩]
      go_enter Tryd.func64, Tryd.ntmps64
      go_wp2_with fail
      go_ret
      exact ⟨rfl, (by repeat (first | (with_reducible exact Below.refl _ _) | (with_reducible assumption) | (with_reducible refine bl_alloc ?_ _) | (with_reducible refine bl_drew ?_) | (with_reducible refine bl_drewN ?_ _) | (with_reducible refine bl_set ?_ (by first | (simp; done) | (simp; omega)) _) | (with_reducible refine bl_trans ?_ ‹_›)))⟩
    · have d2 : decide ((n : Int) ≤ 57) = false := decide_eq_false (by omega)
      rw [if_neg (by omega)]
      by_cases b1 : 97 ≤ n
      · have e1 : decide ((97 : Int) ≤ n) = true := decide_eq_true (by omega)
        by_cases b2 : n ≤ 102
        · have e2 : decide ((n : Int) ≤ 102) = true := decide_eq_true (by omega)
          rw [if_pos ⟨b1, b2⟩]
          go_enter Tryd.func64, Tryd.ntmps64
          go_wp2_with fail
          go_ret
          exact ⟨rfl, (by repeat (first | (with_reducible exact Below.refl _ _) | (with_reducible assumption) | (with_reducible refine bl_alloc ?_ _) | (with_reducible refine bl_drew ?_) | (with_reducible refine bl_drewN ?_ _) | (with_reducible refine bl_set ?_ (by first | (simp; done) | (simp; omega)) _) | (with_reducible refine bl_trans ?_ ‹_›)))⟩
        · have e2 : decide ((n : Int) ≤ 102) = false := decide_eq_false (by omega)
          have f1 : decide ((65 : Int) ≤ n) = true := decide_eq_true (by omega)
          have f2 : decide ((n : Int) ≤ 70) = false := decide_eq_false (by omega)
          rw [if_neg (by omega), if_neg (by omega)]
          go_enter Tryd.func64, Tryd.ntmps64
          go_wp2_with fail
          go_ret
          exact ⟨rfl, (by repeat (first | (with_reducible exact Below.refl _ _) | (with_reducible assumption) | (with_reducible refine bl_alloc ?_ _) | (with_reducible refine bl_drew ?_) | (with_reducible refine bl_drewN ?_ _) | (with_reducible refine bl_set ?_ (by first | (simp; done) | (simp; omega)) _) | (with_reducible refine bl_trans ?_ ‹_›)))⟩
      · have e1 : decide ((97 : Int) ≤ n) = false := decide_eq_false (by omega)
        rw [if_neg (by omega)]
        by_cases f : 65 ≤ n
        · have f1 : decide ((65 : Int) ≤ n) = true := decide_eq_true (by omega)
          by_cases f' : n ≤ 70
          · have f2 : decide ((n : Int) ≤ 70) = true := decide_eq_true (by omega)
            rw [if_pos ⟨f, f'⟩]
            go_enter Tryd.func64, Tryd.ntmps64
            go_wp2_with fail
            go_ret
            exact ⟨rfl, (by repeat (first | (with_reducible exact Below.refl _ _) | (with_reducible assumption) | (with_reducible refine bl_alloc ?_ _) | (with_reducible refine bl_drew ?_) | (with_reducible refine bl_drewN ?_ _) | (with_reducible refine bl_set ?_ (by first | (simp; done) | (simp; omega)) _) | (with_reducible refine bl_trans ?_ ‹_›)))⟩
          · have f2 : decide ((n : Int) ≤ 70) = false := decide_eq_false (by omega)
            rw [if_neg (by omega)]
            go_enter Tryd.func64, Tryd.ntmps64
            go_wp2_with fail
            go_ret
            exact ⟨rfl, (by repeat (first | (with_reducible exact Below.refl _ _) | (with_reducible assumption) | (with_reducible refine bl_alloc ?_ _) | (with_reducible refine bl_drew ?_) | (with_reducible refine bl_drewN ?_ _) | (with_reducible refine bl_set ?_ (by first | (simp; done) | (simp; omega)) _) | (with_reducible refine bl_trans ?_ ‹_›)))⟩
        · have f1 : decide ((65 : Int) ≤ n) = false := decide_eq_false (by omega)
          rw [if_neg (by omega)]
          go_enter Tryd.func64, Tryd.ntmps64
          go_wp2_with fail
          go_ret
          exact ⟨rfl, (by repeat (first | (with_reducible exact Below.refl _ _) | (with_reducible assumption) | (with_reducible refine bl_alloc ?_ _) | (with_reducible refine bl_drew ?_) | (with_reducible refine bl_drewN ?_ _) | (with_reducible refine bl_set ?_ (by first | (simp; done) | (simp; omega)) _) | (with_reducible refine bl_trans ?_ ‹_›)))⟩
  · have d1 : decide ((48 : Int) ≤ n) = false := decide_eq_false (by omega)
    have e1 : decide ((97 : Int) ≤ n) = false := decide_eq_false (by omega)
    have f1 : decide ((65 : Int) ≤ n) = false := decide_eq_false (by omega)
    rw [if_neg (by omega), if_neg (by omega), if_neg (by omega)]
    go_enter Tryd.func64, Tryd.ntmps64
    go_wp2_with fail
    go_ret
    exact ⟨rfl, (by repeat (first | (with_reducible exact Below.refl _ _) | (with_reducible assumption) | (with_reducible refine bl_alloc ?_ _) | (with_reducible refine bl_drew ?_) | (with_reducible refine bl_drewN ?_ _) | (with_reducible refine bl_set ?_ (by first | (simp; done) | (simp; omega)) _) | (with_reducible refine bl_trans ?_ ‹_›)))⟩
theorem hexM_take {l : List UInt8} : ∀ {k : Nat} {n g : Nat}, hexM n l = some g → k ≤ l.length → ∃ m, hexM n (l.take k) = some m ∧ hexM m (l.drop k) = some g := by
  intro k
  induction k generalizing l with
  | zero => intro n g h _; exact ⟨n, by simp [hexM], by simpa using h⟩
  | succ k ih =>
    intro n g h hk
    match l, hk, h with
    | c :: r, hk, h =>
      rw [hexM] at h
      cases hd : hexV c with
      | none => rw [hd] at h; cases h
      | some d =>
        rw [hd] at h
        obtain ⟨m, h1, h2⟩ := ih h (by simpa using hk)
        exact ⟨m, by rw [List.take_succ_cons, hexM, hd]; exact h1, by simpa using h2⟩
theorem hexM_step {l : List UInt8} {k n m d : Nat} {c : UInt8} (hc : l[k]? = some c) (hd : hexV c = some d) (h : hexM n (l.take k) = some m) : hexM n (l.take (k + 1)) = some (16 * m + d) := by
  have e : l.take (k + 1) = l.take k ++ [c] := by
    obtain ⟨hi, rfl⟩ := List.getElem?_eq_some_iff.1 hc
    rw [List.take_succ_eq_append_getElem hi]
  rw [e]
  clear e hc
  generalize l.take k = a at *
  induction a generalizing n with
  | nil => rw [List.nil_append]; simp only [hexM] at h ⊢; cases h; rw [hd]
  | cons x r ih =>
    rw [List.cons_append]
    rw [hexM] at h ⊢
    cases hx : hexV x with
    | none => rw [hx] at h; cases h
    | some y => rw [hx] at h; exact ih h
theorem hexM_each {l : List UInt8} {n g : Nat} (h : hexM n l = some g) {k : Nat} {c : UInt8} (hc : l[k]? = some c) : ∃ d, hexV c = some d := by
  cases hv : hexV c with
  | some d => exact ⟨d, rfl⟩
  | none => rw [hexM_bad hv n (List.mem_of_getElem? hc)] at h; cases h
theorem lower_c (c d : Int) (w : World) (h : bits .or .u8 c 32 = d) : Calls Tryd.prog 101 #[.int .u8 c] w fun e w' => e = .returned (.int .u8 d) ∧ w' = w := by
  rw [← h]; exact Tryd.internal_strconv_lower c w
def hexTab : List (UInt8 × Nat) := [(48, 0), (49, 1), (50, 2), (51, 3), (52, 4), (53, 5), (54, 6), (55, 7), (56, 8), (57, 9), (97, 10), (98, 11), (99, 12), (100, 13), (101, 14), (102, 15), (65, 10), (66, 11), (67, 12), (68, 13), (69, 14), (70, 15)]
theorem hex_all : ∀ n, n < 256 → (match hexV (UInt8.ofNat n) with | none => true | some d => hexTab.contains (UInt8.ofNat n, d)) = true := by decide +kernel
theorem hex_in {c : UInt8} {d : Nat} (h : hexV c = some d) : (c, d) ∈ hexTab := by
  have := hex_all c.toNat c.toNat_lt
  rw [UInt8.ofNat_toNat, h] at this
  simpa using this
set_option maxRecDepth 100000 in
set_option maxHeartbeats 3200000 in
theorem ipu_c (s : ByteArray) (g : Nat) (h : hex16 (bts s) = some g) (w : World) :
    Calls Tryd.prog 83 #[.string s, .int .i64 16, .int .i64 16] w fun e w' => e = .returned (.tuple #[.int .u64 g, .nilIface]) ∧ Below w.heap.size w w' := by
  have hne : s.toList.isEmpty = false := by
    rw [Lib.toList_data]
    cases hb : s.data.toList with
    | nil => unfold hex16 bts at h; rw [hb, if_pos (.inl rfl)] at h; cases h
    | cons a l => rfl
  have hcv := Lib.run_convert_string_bytes (P := Tryd.prog) w 9 34 5 s Tryd.underlying9 Tryd.underlying34 Tryd.underlying5
  have hbw := Lib.bytesWorld_below w 5 s
  have hcell := Lib.bytesWorld_cell w 5 s
  have hsz := Lib.bytesWorld_size w 5 s
  have hl4 : s.size ≤ 4 ∧ hexM 0 (bts s) = some g := by
    unfold hex16 at h
    split at h
    · cases h
    · rename_i hq
      exact ⟨by simp [bts] at hq; omega, h⟩
  obtain ⟨h4, hM⟩ := hl4
  generalize Lib.bytesWorld w 5 s = wb at *
  generalize grownCap w s.size 0 5 = cap at *
  have HC := Lib.hid hcell
  have HM := Lib.hid hM
  clear hcell hM h
  go_enter Tryd.func83, Tryd.ntmps83
  go_wp2_with fail
  go_loopw [12, 13, 101] (fun su sn i wr => ∃ k m : Nat, k ≤ s.size ∧ su = .bool false ∧ i = .int .i64 k ∧ hexM 0 ((bts s).take k) = some m ∧ sn = .int .u64 m ∧ Below wb.heap.size wb wr) (fun _ _ i _ => s.size - (intOf i).toNat)
  case atStart => exact ⟨0, 0, by omega, rfl, rfl, rfl, rfl, Below.refl _ _⟩
  case round =>
    obtain ⟨k, m, hk, rfl, rfl, hm, rfl, hbel⟩ := hrel
    by_cases hlt : k < s.size
    · have d1 : (k : Int) < s.size := by omega
      obtain ⟨c, hc⟩ : ∃ c, (bts s)[k]? = some c := ⟨_, List.getElem?_eq_getElem (by simpa [bts] using hlt)⟩
      obtain ⟨d, hd⟩ := hexM_each HM.out hc
      have hstep := hexM_step hc hd hm
      have hml := hexM_lt hm
      have hdl := hexV_lt hd
      rw [List.length_take] at hml
      have hm4 : m < 4096 := by
        have : 16 ^ (min k (bts s).length) ≤ 16 ^ 3 := Nat.pow_le_pow_right (by omega) (by omega)
        omega
      have hcell := HC.out k hlt
      have hcc : s.data.toList.getD k 0 = c := by
        show (bts s).getD k 0 = c
        rw [List.getD_eq_getElem?_getD, hc]; rfl
      have HCC := Lib.hid hcc
      rw [hcc] at hcell
      have hcell2 := (hbel.cell (p := ⟨w.heap.size, k, none⟩) (by show w.heap.size < wb.heap.size; omega)).trans hcell
      have HST := Lib.hid hstep
      clear hstep hcell hcc hm hml hc
      have q1 : decide ((1152921504606846976 : Int) ≤ (m : Int)) = false := decide_eq_false (by omega)
      have q2 : IntKind.u64.wrap ((m : Int) * 16) = (m : Int) * 16 := by show ((m : Int) * 16) % 18446744073709551616 = _; omega
      have hin := hex_in hd
      have hk3 : k ≤ 3 := by omega
      clear hd hcell2 hdl
      have hcell2 := (hbel.cell (p := ⟨w.heap.size, k, none⟩) (by show w.heap.size < wb.heap.size; omega)).trans (HC.out k hlt)
      have hcc2 := HCC.out
      rw [hcc2] at hcell2
      clear hcc2
      simp only [hexTab, List.mem_cons, Prod.mk.injEq, List.not_mem_nil, or_false] at hin
      rcases hin with ⟨rfl, rfl⟩ | ⟨rfl, rfl⟩ | ⟨rfl, rfl⟩ | ⟨rfl, rfl⟩ | ⟨rfl, rfl⟩ | ⟨rfl, rfl⟩ | ⟨rfl, rfl⟩ | ⟨rfl, rfl⟩ | ⟨rfl, rfl⟩ | ⟨rfl, rfl⟩ | ⟨rfl, rfl⟩ | ⟨rfl, rfl⟩ | ⟨rfl, rfl⟩ | ⟨rfl, rfl⟩ | ⟨rfl, rfl⟩ | ⟨rfl, rfl⟩ | ⟨rfl, rfl⟩ | ⟨rfl, rfl⟩ | ⟨rfl, rfl⟩ | ⟨rfl, rfl⟩ | ⟨rfl, rfl⟩ | ⟨rfl, rfl⟩
      · have q3 : IntKind.u64.wrap ((m : Int) * 16 + 0) = (m : Int) * 16 + 0 := by show ((m : Int) * 16 + 0) % 18446744073709551616 = _; omega
        go_wp2_with fail
        go_roundw
        case rel => exact ⟨k + 1, 16 * m + 0, by omega, rfl, by go_num, HST.out, by congr 1; omega, hbel⟩
        case measure => simp [intOf]; omega
      · have q3 : IntKind.u64.wrap ((m : Int) * 16 + 1) = (m : Int) * 16 + 1 := by show ((m : Int) * 16 + 1) % 18446744073709551616 = _; omega
        go_wp2_with fail
        go_roundw
        case rel => exact ⟨k + 1, 16 * m + 1, by omega, rfl, by go_num, HST.out, by congr 1; omega, hbel⟩
        case measure => simp [intOf]; omega
      · have q3 : IntKind.u64.wrap ((m : Int) * 16 + 2) = (m : Int) * 16 + 2 := by show ((m : Int) * 16 + 2) % 18446744073709551616 = _; omega
        go_wp2_with fail
        go_roundw
        case rel => exact ⟨k + 1, 16 * m + 2, by omega, rfl, by go_num, HST.out, by congr 1; omega, hbel⟩
        case measure => simp [intOf]; omega
      · have q3 : IntKind.u64.wrap ((m : Int) * 16 + 3) = (m : Int) * 16 + 3 := by show ((m : Int) * 16 + 3) % 18446744073709551616 = _; omega
        go_wp2_with fail
        go_roundw
        case rel => exact ⟨k + 1, 16 * m + 3, by omega, rfl, by go_num, HST.out, by congr 1; omega, hbel⟩
        case measure => simp [intOf]; omega
      · have q3 : IntKind.u64.wrap ((m : Int) * 16 + 4) = (m : Int) * 16 + 4 := by show ((m : Int) * 16 + 4) % 18446744073709551616 = _; omega
        go_wp2_with fail
        go_roundw
        case rel => exact ⟨k + 1, 16 * m + 4, by omega, rfl, by go_num, HST.out, by congr 1; omega, hbel⟩
        case measure => simp [intOf]; omega
      · have q3 : IntKind.u64.wrap ((m : Int) * 16 + 5) = (m : Int) * 16 + 5 := by show ((m : Int) * 16 + 5) % 18446744073709551616 = _; omega
        go_wp2_with fail
        go_roundw
        case rel => exact ⟨k + 1, 16 * m + 5, by omega, rfl, by go_num, HST.out, by congr 1; omega, hbel⟩
        case measure => simp [intOf]; omega
      · have q3 : IntKind.u64.wrap ((m : Int) * 16 + 6) = (m : Int) * 16 + 6 := by show ((m : Int) * 16 + 6) % 18446744073709551616 = _; omega
        go_wp2_with fail
        go_roundw
        case rel => exact ⟨k + 1, 16 * m + 6, by omega, rfl, by go_num, HST.out, by congr 1; omega, hbel⟩
        case measure => simp [intOf]; omega
      · have q3 : IntKind.u64.wrap ((m : Int) * 16 + 7) = (m : Int) * 16 + 7 := by show ((m : Int) * 16 + 7) % 18446744073709551616 = _; omega
        go_wp2_with fail
        go_roundw
        case rel => exact ⟨k + 1, 16 * m + 7, by omega, rfl, by go_num, HST.out, by congr 1; omega, hbel⟩
        case measure => simp [intOf]; omega
      · have q3 : IntKind.u64.wrap ((m : Int) * 16 + 8) = (m : Int) * 16 + 8 := by show ((m : Int) * 16 + 8) % 18446744073709551616 = _; omega
        go_wp2_with fail
        go_roundw
        case rel => exact ⟨k + 1, 16 * m + 8, by omega, rfl, by go_num, HST.out, by congr 1; omega, hbel⟩
        case measure => simp [intOf]; omega
      · have q3 : IntKind.u64.wrap ((m : Int) * 16 + 9) = (m : Int) * 16 + 9 := by show ((m : Int) * 16 + 9) % 18446744073709551616 = _; omega
        go_wp2_with fail
        go_roundw
        case rel => exact ⟨k + 1, 16 * m + 9, by omega, rfl, by go_num, HST.out, by congr 1; omega, hbel⟩
        case measure => simp [intOf]; omega
      · have q3 : IntKind.u64.wrap ((m : Int) * 16 + 10) = (m : Int) * 16 + 10 := by show ((m : Int) * 16 + 10) % 18446744073709551616 = _; omega
        have HLO := Lib.hid (fun w => lower_c 97 97 w (by decide))
        go_wp2_with fail
        refine (HLO.out _).mono ?_
        rintro e w9 ⟨rfl, rfl⟩
        go_wp2_with fail
        refine (HLO.out _).mono ?_
        rintro e w9 ⟨rfl, rfl⟩
        go_wp2_with fail
        refine (HLO.out _).mono ?_
        rintro e w9 ⟨rfl, rfl⟩
        go_wp2_with fail
        go_roundw
        case rel => exact ⟨k + 1, 16 * m + 10, by omega, rfl, by go_num, HST.out, by congr 1; omega, hbel⟩
        case measure => simp [intOf]; omega
      · have q3 : IntKind.u64.wrap ((m : Int) * 16 + 11) = (m : Int) * 16 + 11 := by show ((m : Int) * 16 + 11) % 18446744073709551616 = _; omega
        have HLO := Lib.hid (fun w => lower_c 98 98 w (by decide))
        go_wp2_with fail
        refine (HLO.out _).mono ?_
        rintro e w9 ⟨rfl, rfl⟩
        go_wp2_with fail
        refine (HLO.out _).mono ?_
        rintro e w9 ⟨rfl, rfl⟩
        go_wp2_with fail
        refine (HLO.out _).mono ?_
        rintro e w9 ⟨rfl, rfl⟩
        go_wp2_with fail
        go_roundw
        case rel => exact ⟨k + 1, 16 * m + 11, by omega, rfl, by go_num, HST.out, by congr 1; omega, hbel⟩
        case measure => simp [intOf]; omega
      · have q3 : IntKind.u64.wrap ((m : Int) * 16 + 12) = (m : Int) * 16 + 12 := by show ((m : Int) * 16 + 12) % 18446744073709551616 = _; omega
        have HLO := Lib.hid (fun w => lower_c 99 99 w (by decide))
        go_wp2_with fail
        refine (HLO.out _).mono ?_
        rintro e w9 ⟨rfl, rfl⟩
        go_wp2_with fail
        refine (HLO.out _).mono ?_
        rintro e w9 ⟨rfl, rfl⟩
        go_wp2_with fail
        refine (HLO.out _).mono ?_
        rintro e w9 ⟨rfl, rfl⟩
        go_wp2_with fail
        go_roundw
        case rel => exact ⟨k + 1, 16 * m + 12, by omega, rfl, by go_num, HST.out, by congr 1; omega, hbel⟩
        case measure => simp [intOf]; omega
      · have q3 : IntKind.u64.wrap ((m : Int) * 16 + 13) = (m : Int) * 16 + 13 := by show ((m : Int) * 16 + 13) % 18446744073709551616 = _; omega
        have HLO := Lib.hid (fun w => lower_c 100 100 w (by decide))
        go_wp2_with fail
        refine (HLO.out _).mono ?_
        rintro e w9 ⟨rfl, rfl⟩
        go_wp2_with fail
        refine (HLO.out _).mono ?_
        rintro e w9 ⟨rfl, rfl⟩
        go_wp2_with fail
        refine (HLO.out _).mono ?_
        rintro e w9 ⟨rfl, rfl⟩
        go_wp2_with fail
        go_roundw
        case rel => exact ⟨k + 1, 16 * m + 13, by omega, rfl, by go_num, HST.out, by congr 1; omega, hbel⟩
        case measure => simp [intOf]; omega
      · have q3 : IntKind.u64.wrap ((m : Int) * 16 + 14) = (m : Int) * 16 + 14 := by show ((m : Int) * 16 + 14) % 18446744073709551616 = _; omega
        have HLO := Lib.hid (fun w => lower_c 101 101 w (by decide))
        go_wp2_with fail
        refine (HLO.out _).mono ?_
        rintro e w9 ⟨rfl, rfl⟩
        go_wp2_with fail
        refine (HLO.out _).mono ?_
        rintro e w9 ⟨rfl, rfl⟩
        go_wp2_with fail
        refine (HLO.out _).mono ?_
        rintro e w9 ⟨rfl, rfl⟩
        go_wp2_with fail
        go_roundw
        case rel => exact ⟨k + 1, 16 * m + 14, by omega, rfl, by go_num, HST.out, by congr 1; omega, hbel⟩
        case measure => simp [intOf]; omega
      · have q3 : IntKind.u64.wrap ((m : Int) * 16 + 15) = (m : Int) * 16 + 15 := by show ((m : Int) * 16 + 15) % 18446744073709551616 = _; omega
        have HLO := Lib.hid (fun w => lower_c 102 102 w (by decide))
        go_wp2_with fail
        refine (HLO.out _).mono ?_
        rintro e w9 ⟨rfl, rfl⟩
        go_wp2_with fail
        refine (HLO.out _).mono ?_
        rintro e w9 ⟨rfl, rfl⟩
        go_wp2_with fail
        refine (HLO.out _).mono ?_
        rintro e w9 ⟨rfl, rfl⟩
        go_wp2_with fail
        go_roundw
        case rel => exact ⟨k + 1, 16 * m + 15, by omega, rfl, by go_num, HST.out, by congr 1; omega, hbel⟩
        case measure => simp [intOf]; omega
      · have q3 : IntKind.u64.wrap ((m : Int) * 16 + 10) = (m : Int) * 16 + 10 := by show ((m : Int) * 16 + 10) % 18446744073709551616 = _; omega
        have HLO := Lib.hid (fun w => lower_c 65 97 w (by decide))
        go_wp2_with fail
        refine (HLO.out _).mono ?_
        rintro e w9 ⟨rfl, rfl⟩
        go_wp2_with fail
        refine (HLO.out _).mono ?_
        rintro e w9 ⟨rfl, rfl⟩
        go_wp2_with fail
        refine (HLO.out _).mono ?_
        rintro e w9 ⟨rfl, rfl⟩
        go_wp2_with fail
        go_roundw
        case rel => exact ⟨k + 1, 16 * m + 10, by omega, rfl, by go_num, HST.out, by congr 1; omega, hbel⟩
        case measure => simp [intOf]; omega
      · have q3 : IntKind.u64.wrap ((m : Int) * 16 + 11) = (m : Int) * 16 + 11 := by show ((m : Int) * 16 + 11) % 18446744073709551616 = _; omega
        have HLO := Lib.hid (fun w => lower_c 66 98 w (by decide))
        go_wp2_with fail
        refine (HLO.out _).mono ?_
        rintro e w9 ⟨rfl, rfl⟩
        go_wp2_with fail
        refine (HLO.out _).mono ?_
        rintro e w9 ⟨rfl, rfl⟩
        go_wp2_with fail
        refine (HLO.out _).mono ?_
        rintro e w9 ⟨rfl, rfl⟩
        go_wp2_with fail
        go_roundw
        case rel => exact ⟨k + 1, 16 * m + 11, by omega, rfl, by go_num, HST.out, by congr 1; omega, hbel⟩
        case measure => simp [intOf]; omega
      · have q3 : IntKind.u64.wrap ((m : Int) * 16 + 12) = (m : Int) * 16 + 12 := by show ((m : Int) * 16 + 12) % 18446744073709551616 = _; omega
        have HLO := Lib.hid (fun w => lower_c 67 99 w (by decide))
        go_wp2_with fail
        refine (HLO.out _).mono ?_
        rintro e w9 ⟨rfl, rfl⟩
        go_wp2_with fail
        refine (HLO.out _).mono ?_
        rintro e w9 ⟨rfl, rfl⟩
        go_wp2_with fail
        refine (HLO.out _).mono ?_
        rintro e w9 ⟨rfl, rfl⟩
        go_wp2_with fail
        go_roundw
        case rel => exact ⟨k + 1, 16 * m + 12, by omega, rfl, by go_num, HST.out, by congr 1; omega, hbel⟩
        case measure => simp [intOf]; omega
      · have q3 : IntKind.u64.wrap ((m : Int) * 16 + 13) = (m : Int) * 16 + 13 := by show ((m : Int) * 16 + 13) % 18446744073709551616 = _; omega
        have HLO := Lib.hid (fun w => lower_c 68 100 w (by decide))
        go_wp2_with fail
        refine (HLO.out _).mono ?_
        rintro e w9 ⟨rfl, rfl⟩
        go_wp2_with fail
        refine (HLO.out _).mono ?_
        rintro e w9 ⟨rfl, rfl⟩
        go_wp2_with fail
        refine (HLO.out _).mono ?_
        rintro e w9 ⟨rfl, rfl⟩
        go_wp2_with fail
        go_roundw
        case rel => exact ⟨k + 1, 16 * m + 13, by omega, rfl, by go_num, HST.out, by congr 1; omega, hbel⟩
        case measure => simp [intOf]; omega
      · have q3 : IntKind.u64.wrap ((m : Int) * 16 + 14) = (m : Int) * 16 + 14 := by show ((m : Int) * 16 + 14) % 18446744073709551616 = _; omega
        have HLO := Lib.hid (fun w => lower_c 69 101 w (by decide))
        go_wp2_with fail
        refine (HLO.out _).mono ?_
        rintro e w9 ⟨rfl, rfl⟩
        go_wp2_with fail
        refine (HLO.out _).mono ?_
        rintro e w9 ⟨rfl, rfl⟩
        go_wp2_with fail
        refine (HLO.out _).mono ?_
        rintro e w9 ⟨rfl, rfl⟩
        go_wp2_with fail
        go_roundw
        case rel => exact ⟨k + 1, 16 * m + 14, by omega, rfl, by go_num, HST.out, by congr 1; omega, hbel⟩
        case measure => simp [intOf]; omega
      · have q3 : IntKind.u64.wrap ((m : Int) * 16 + 15) = (m : Int) * 16 + 15 := by show ((m : Int) * 16 + 15) % 18446744073709551616 = _; omega
        have HLO := Lib.hid (fun w => lower_c 70 102 w (by decide))
        go_wp2_with fail
        refine (HLO.out _).mono ?_
        rintro e w9 ⟨rfl, rfl⟩
        go_wp2_with fail
        refine (HLO.out _).mono ?_
        rintro e w9 ⟨rfl, rfl⟩
        go_wp2_with fail
        refine (HLO.out _).mono ?_
        rintro e w9 ⟨rfl, rfl⟩
        go_wp2_with fail
        go_roundw
        case rel => exact ⟨k + 1, 16 * m + 15, by omega, rfl, by go_num, HST.out, by congr 1; omega, hbel⟩
        case measure => simp [intOf]; omega
    · obtain rfl : k = s.size := by omega
      have d1 : ¬ (s.size : Int) < s.size := by omega
      have hlen : (bts s).length = s.size := by simp [bts]
      rw [← hlen, List.take_length, HM.out] at hm
      cases hm
      go_wp2_with fail
      go_ret2
      exact ⟨rfl, bl_trans hbw hbel⟩
end Go.Proofs.YtgdgklibilddgaaDoor
