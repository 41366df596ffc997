/- Addresses: the reference's digits in base 16. -/
import Derived.Test.YtgdgklibilddgaaDoorAdX
namespace Go.Proofs.YtgdgklibilddgaaDoor
open Go.RowKit

theorem one_bytes (l : List Int) : ∀ u ∈ bytesV l, u.oneCell' = true := by
  intro u hu
  simp only [bytesV, List.mem_map] at hu
  obtain ⟨n, _, rfl⟩ := hu
  rfl
/-- what is still to be printed behind i signs -/
def restH (i u : Nat) : List Nat := if i = 0 ∨ u ≠ 0 then (hexD u).map UInt8.toNat else []
theorem restH_step {i u : Nat} (h : i = 0 ∨ u ≠ 0) (hu : u < 65536) : restH i u = restH (i + 1) (u / 16) ++ [(hexC (u % 16)).toNat] := by
  unfold restH
  rw [if_pos h]
  by_cases h16 : 16 ≤ u
  · rw [if_pos (by omega), hexD_step h16 hu]; simp
  · rw [if_neg (by omega)]
    unfold hexD
    rw [if_pos (by omega), Nat.mod_eq_of_lt (by omega)]
    rfl
theorem hexC_lo {d : Nat} (h : d ≤ 9) : (hexC d).toNat = 48 + d := by
  unfold hexC; rw [if_pos h, UInt8.toNat_ofNat']; omega
theorem hexC_hi {d : Nat} (h : ¬ d ≤ 9) (h2 : d < 16) : (hexC d).toNat = 87 + d := by
  unfold hexC; rw [if_neg h, UInt8.toNat_ofNat']; omega
def LeftH (i u : Nat) : Prop := (i = 0 ∧ u < 65536) ∨ (i = 1 ∧ u < 4096) ∨ (i = 2 ∧ u < 256) ∨ (i = 3 ∧ u < 16) ∨ (i = 4 ∧ u = 0)
set_option maxRecDepth 100000 in
set_option maxHeartbeats 3200000 in
theorem rhex_c (n : Nat) (w : World) (hn : n < 65536) :
    Calls Tryd.prog 31 #[.int .i64 n] w fun e w' => e = .returned (.string (hexT n)) ∧ Below w.heap.size w w' := by
  obtain ⟨i0, hi0, hz0, hz1, hz2⟩ := info_parts info_u8
  have hT : strOfNums (ints ((hexD n).map UInt8.toNat)) = hexT n := by rw [txt_back]; rfl
  rw [← hT]
  have hr0 : (hexD n).map UInt8.toNat = restH 0 n := by unfold restH; rw [if_pos (.inl rfl)]
  rw [hr0]
  clear hT hr0
  obtain ⟨R, hR⟩ : ∃ R, R = restH 0 n := ⟨_, rfl⟩
  rw [← hR]
  have HR := Lib.hid hR
  clear hR
  go_enter Tryd.func31, Tryd.ntmps31
  go_wp2_with fail
  go_loopw [0, 3, 4] (fun vn b i wr => ∃ (k u g cap : Nat) (l : List Nat), i = .int .i64 k ∧ vn = .int .i64 u ∧ LeftH k u ∧ l.length = k ∧ R = restH k u ++ l ∧
      b = .slice (some ⟨g, 0, none⟩) k cap ∧ k ≤ cap ∧ w.heap.size ≤ g ∧ g < wr.heap.size ∧ (∀ j, j < k → wr.cell? ⟨g, j, none⟩ = some (.int .u8 ((ints l).getD j 0))) ∧ Below w.heap.size w wr) (fun _ _ i _ => 4 - (intOf i).toNat)
  case atStart =>
    exact ⟨0, n, _, _, [], rfl, rfl, .inl ⟨rfl, hn⟩, rfl, by rw [HR.out, List.append_nil], rfl, Nat.le_refl _, Nat.le_refl _, by simp, fun j hj => absurd hj (by omega), (by repeat (first | (with_reducible exact Below.refl _ _) | (with_reducible assumption) | (with_reducible refine bl_alloc ?_ _) | (with_reducible refine bl_drew ?_) | (with_reducible refine bl_drewN ?_ _) | (with_reducible refine bl_set ?_ (by first | (simp; done) | (simp; omega)) _) | (with_reducible refine bl_trans ?_ ‹_›)))⟩
  case round =>
    obtain ⟨k, u, g, cap, l, rfl, rfl, hle, hl, hrr, rfl, hkc, hg0, hg1, hcells, hbel⟩ := hrel
    have hk4 : k ≤ 4 ∧ u < 65536 := by unfold LeftH at hle; omega
    obtain ⟨hk4, hu6⟩ := hk4
    by_cases hgo : k < 4 ∧ (k = 0 ∨ u ≠ 0)
    · have hst := restH_step hgo.2 hu6
      have hpart : ((k : Int) == 0) = true ∨ (((k : Int) == 0) = false ∧ (0 : Int) < u) := by
        by_cases e : k = 0
        · exact .inl (by simpa using e)
        · exact .inr ⟨by simpa using e, by omega⟩
      have d1 : (k : Int) < 4 := by omega
      have hln : LeftH (k + 1) (u / 16) := by unfold LeftH at *; omega
      have hrn : R = restH (k + 1) (u / 16) ++ ((hexC (u % 16)).toNat :: l) := by rw [hrr, hst]; simp
      obtain ⟨d, hd⟩ : ∃ d, u % 16 = d := ⟨_, rfl⟩
      obtain ⟨q, hq⟩ : ∃ q, u / 16 = q := ⟨_, rfl⟩
      have hd16 : d < 16 := by omega
      have hdi : (u : Int) % 16 = d := by omega
      have hqi : (u : Int) / 16 = q := by omega
      rw [hd, hq] at hrn
      rw [hq] at hln
      have HRN := Lib.hid hrn
      have HLN := Lib.hid hln
      have HL := Lib.hid hl
      have HC := Lib.hid hcells
      have hkg := hgo.1
      have hsz := hbel.size
      clear hst hrr hrn hln hle hl hcells hgo hd hq
      have hch : (d ≤ 9 ∧ (hexC d).toNat = 48 + d) ∨ (¬ d ≤ 9 ∧ (hexC d).toNat = 87 + d) := by
        by_cases h9 : d ≤ 9
        · exact .inl ⟨h9, hexC_lo h9⟩
        · exact .inr ⟨h9, hexC_hi h9 hd16⟩
      have hbl : (bytesV (ints l)).length = k * 1 := by simp [bytesV, ints, HL.out]
      have HBL := Lib.hid hbl
      have hown : ∀ c : Int, (wr.alloc (.cells #[.int .u8 c] 5)).ownsRow w.heap.size 5 1 (.slice (some ⟨wr.heap.size, 0, none⟩) 1 1) 1 [.int .u8 c] := fun c =>
        own_laid wr [c] (by simp [maxLen]) w.heap.size hsz
      have hcc : ∀ (c : Int) j u, (bytesV (ints l))[j]? = some u → (wr.alloc (.cells #[.int .u8 c] 5)).cell? ((⟨g, 0, none⟩ : Addr).add j) = some u := by
        intro c j u hu
        have hj : j < (ints l).length := by
          rcases Nat.lt_or_ge j (ints l).length with e | e
          · exact e
          · rw [List.getElem?_eq_none (by simpa [bytesV] using e)] at hu; cases hu
        rw [get_bytes hj] at hu
        cases hu
        have ea : (⟨g, 0, none⟩ : Addr).add j = ⟨g, j, none⟩ := by unfold Addr.add; split <;> simp_all
        rw [ea, World.cell?_of_block (Below.heap_alloc _ _ g hg1)]
        exact HC.out j (by rw [← HL.out, ← ints_len]; exact hj)
      have HC3 := Lib.hid hcc
      have HOWN := Lib.hid hown
      clear hcc hown hbl
      rcases hch with ⟨h9, hc⟩ | ⟨h9, hc⟩
      · have d9 : ¬ (9 : Int) < d := by omega
        have HCC := Lib.hid hc
        clear hc
        rcases hpart with p1 | ⟨p1, p2⟩
        all_goals
          go_wp2_with (at_builtin; refine wpList_append_own _ rfl _ _ 34 rfl w.heap.size 5 i0 (.int .u8 0) 1 1 Tryd.underlying34 hi0 hz0 hz1 hz2 rfl (by decide) _ _ _ rfl (HOWN.out (48 + (d : Int))) ⟨g, 0, none⟩ k cap (bytesV (ints l)) rfl HBL.out (HC3.out _) (one_bytes _) (by simp only [maxLen]; omega) (by omega) (by rw [size_alloc']; omega) ?_)
          intro v' w2 hown3 hgrow _
          have hbel3 : Below w.heap.size w w2 := (bl_alloc hbel (.cells #[.int .u8 (48 + (d : Int))] 5)).grown hgrow (by rw [size_alloc']; omega) fun b hb => ((HOWN.out (48 + (d : Int))).lt b hb).1
          have hxs : Value.int .u8 (48 + (d : Int)) :: bytesV (ints l) = bytesV (ints ((48 + d) :: l)) := by simp [bytesV, ints]
          rw [hxs] at hown3
          obtain ⟨g3, cap3, rfl, hg2, hg3, hg5, hg4, hg6⟩ := own_form hown3 (by omega : 0 < 1 + k)
          have HG4 := Lib.hid hg4
          clear hg4 hg6 hown3 hgrow hxs
          rw [Nat.add_comm 1 k] at *
          go_wp2_with fail
          go_roundw
          case rel =>
            refine ⟨k + 1, q, g3, cap3, (48 + d) :: l, by go_num, by first | rfl | go_num, HLN.out, by simp [HL.out], by rw [HRN.out, HCC.out], rfl, by omega, by omega, by omega, fun j hj => HG4.out j _ (get_bytes (by rw [ints_len, List.length_cons, HL.out]; exact hj)), hbel3⟩
          case measure => simp [intOf]; omega
      · have d9 : (9 : Int) < d := by omega
        have HCC := Lib.hid hc
        clear hc
        rcases hpart with p1 | ⟨p1, p2⟩
        all_goals
          go_wp2_with (at_builtin; refine wpList_append_own _ rfl _ _ 34 rfl w.heap.size 5 i0 (.int .u8 0) 1 1 Tryd.underlying34 hi0 hz0 hz1 hz2 rfl (by decide) _ _ _ rfl (HOWN.out (87 + (d : Int))) ⟨g, 0, none⟩ k cap (bytesV (ints l)) rfl HBL.out (HC3.out _) (one_bytes _) (by simp only [maxLen]; omega) (by omega) (by rw [size_alloc']; omega) ?_)
          intro v' w2 hown3 hgrow _
          have hbel3 : Below w.heap.size w w2 := (bl_alloc hbel (.cells #[.int .u8 (87 + (d : Int))] 5)).grown hgrow (by rw [size_alloc']; omega) fun b hb => ((HOWN.out (87 + (d : Int))).lt b hb).1
          have hxs : Value.int .u8 (87 + (d : Int)) :: bytesV (ints l) = bytesV (ints ((87 + d) :: l)) := by simp [bytesV, ints]
          rw [hxs] at hown3
          obtain ⟨g3, cap3, rfl, hg2, hg3, hg5, hg4, hg6⟩ := own_form hown3 (by omega : 0 < 1 + k)
          have HG4 := Lib.hid hg4
          clear hg4 hg6 hown3 hgrow hxs
          rw [Nat.add_comm 1 k] at *
          go_wp2_with fail
          go_roundw
          case rel =>
            refine ⟨k + 1, q, g3, cap3, (87 + d) :: l, by go_num, by first | rfl | go_num, HLN.out, by simp [HL.out], by rw [HRN.out, HCC.out], rfl, by omega, by omega, by omega, fun j hj => HG4.out j _ (get_bytes (by rw [ints_len, List.length_cons, HL.out]; exact hj)), hbel3⟩
          case measure => simp [intOf]; omega
    · have hrest : restH k u = [] := by
        unfold restH
        rw [if_neg]
        unfold LeftH at hle
        omega
      have hRl : R = l := by rw [hrr, hrest]; rfl
      have hconv : (convert 34 9 (.slice (some ⟨g, 0, none⟩) k cap)).run Tryd.prog wr = .ok (.string (strOfNums (ints R))) wr :=
        run_convert_bytes_arg wr _ _ Tryd.underlying34 Tryd.underlying5 g 0 k cap (ints R) (by rw [ints_len, hRl, hl]) (fun i hi => by rw [Nat.zero_add, hRl]; exact hcells i hi) _ Tryd.underlying9
      have hpart : ¬ (k : Int) < 4 ∨ ((k : Int) < 4 ∧ ((k : Int) == 0) = false ∧ ¬ (0 : Int) < u) := by
        by_cases e : k < 4
        · exact .inr ⟨by omega, by simp; omega, by omega⟩
        · exact .inl (by omega)
      clear hrest hRl hrr hl hle hcells hgo
      rcases hpart with p1 | ⟨p1, p2, p3⟩
      all_goals
        go_wp2_with fail
        go_ret
        exact ⟨rfl, hbel⟩
end Go.Proofs.YtgdgklibilddgaaDoor
