/- The walk of ManifestEscapes. -/
import Derived.Test.YtanflcccjjbkgaaDoorMeG
namespace Go.Proofs.YtanflcccjjbkgaaDoor
open Go.RowKit

theorem numsS_str {l : List Int} (h : ∀ n ∈ l, 0 ≤ n ∧ n < 256) : numsS (strOfNums l) = l := by
  unfold numsS
  rw [strOfNums_data, List.map_map]
  conv => rhs; rw [← List.map_id l]
  apply List.map_congr_left
  intro n hn
  obtain ⟨h0, h1⟩ := h n hn
  simp only [Function.comp_def, UInt8.toNat_ofNat', id]
  omega
theorem str_numsS (s : ByteArray) : strOfNums (numsS s) = s := by
  apply ByteArray.ext
  apply Array.ext'
  show ((numsS s).map fun n => UInt8.ofNat n.toNat) = s.data.toList
  unfold numsS
  rw [List.map_map]
  conv => rhs; rw [← List.map_id s.data.toList]
  apply List.map_congr_left
  intro b _
  simp
theorem mI_bd {x d : Int} (h : mI x = some d) : 0 ≤ d ∧ d < 256 := by
  unfold mI at h
  split at h
  · cases h; decide
  split at h
  · cases h; decide
  split at h
  · cases h; decide
  split at h
  · cases h; decide
  split at h
  · cases h; decide
  · cases h
theorem esc_len_ge : ∀ l : List Int, l.length ≤ (escL l).length
  | [] => by simp [escL]
  | c :: l => by
    have := esc_len_ge l
    rw [escL_cons, List.length_append, List.length_cons]
    have h1 : 1 ≤ (esc1 c).length := by unfold esc1; split <;> simp
    omega
theorem unesc_bd (n : Nat) : ∀ l v : List Int, l.length ≤ n → (∀ x ∈ l, 0 ≤ x ∧ x < 256) → unesc l = some v → ∀ x ∈ v, 0 ≤ x ∧ x < 256 := by
  induction n with
  | zero =>
    intro l v hl _ h
    obtain rfl : l = [] := List.eq_nil_of_length_eq_zero (by omega)
    rw [unesc_nil] at h; cases h; simp
  | succ n ih =>
    intro l v hl hb h
    match l, hl, hb, h with
    | [], _, _, h => rw [unesc_nil] at h; cases h; simp
    | c :: l, hl, hb, h =>
      by_cases hc : c = 92
      · subst hc
        match l, hl, hb, h with
        | [], _, _, h => rw [unesc_lone] at h; cases h
        | x :: l', hl, hb, h =>
          cases hm : mI x with
          | none => rw [unesc_bad _ hm] at h; cases h
          | some d =>
            rw [unesc_bs _ hm] at h
            simp only [Option.map_eq_some_iff] at h
            obtain ⟨u, hu, rfl⟩ := h
            have := ih l' u (by simp at hl; omega) (fun y hy => hb y (by simp [hy])) hu
            intro y hy
            rcases List.mem_cons.1 hy with rfl | hy
            · exact mI_bd hm
            · exact this y hy
      · by_cases he : eI c = 0
        · rw [unesc_plain _ he] at h
          simp only [Option.map_eq_some_iff] at h
          obtain ⟨u, hu, rfl⟩ := h
          have := ih l u (by simp at hl; omega) (fun y hy => hb y (by simp [hy])) hu
          intro y hy
          rcases List.mem_cons.1 hy with rfl | hy
          · exact hb y (by simp)
          · exact this y hy
        · rw [unesc_odd _ hc he] at h; cases h
/-- what is said of an escaped text -/
theorem esc_facts (s : ByteArray) (hs : s.size ≤ 3000) :
    (escT s).size ≤ 1000000 ∧ unescV (numsS (escT s)) = .tuple #[.string s, .int .i64 0] ∧ ∀ k (h : k < (escT s).size), (((escT s)[k]).toNat : Int) ≠ 32 ∧ (((escT s)[k]).toNat : Int) ≠ 10 ∧ (((escT s)[k]).toNat : Int) ≠ 44 ∧ (((escT s)[k]).toNat : Int) ≠ 61 := by
  have hb := escL_bd (l := numsS s) numsS_bd
  have hn : numsS (escT s) = escL (numsS s) := numsS_str hb
  refine ⟨by have := escT_size s; omega, ?_, fun k h => ?_⟩
  · rw [hn, unescV_some (unesc_esc _), str_numsS]
  · have hg := numsS_get h
    rw [hn] at hg
    exact esc_bare _ _ (List.mem_of_getElem? hg)
theorem back_facts (s : ByteArray) (hs : s.size ≤ 3000) :
    (unescV (numsS s) = .tuple #[.string ⟨#[]⟩, .int .i64 4]) ∨ ∃ v : ByteArray, unescV (numsS s) = .tuple #[.string v, .int .i64 0] ∧ v.size ≤ 1000000 ∧ escT v = s := by
  cases h : unesc (numsS s) with
  | none => exact .inl (unescV_none h)
  | some v =>
    have hb := unesc_bd _ _ v (Nat.le_refl _) numsS_bd h
    have he := esc_unesc _ _ v (Nat.le_refl _) h
    refine .inr ⟨strOfNums v, unescV_some h, ?_, ?_⟩
    · rw [strOfNums_size]
      have := esc_len_ge v
      rw [he, numsS_len] at this; omega
    · unfold escT; rw [numsS_str hb, he, str_numsS]
theorem wordS_ne (j : Nat) : (wordS j).toList.isEmpty = false := by
  rw [Lib.toList_data]
  match j with
  | 0 => rfl
  | 1 => rfl
  | 2 => rfl
  | n + 3 => rfl
set_option maxRecDepth 100000 in
set_option maxHeartbeats 1600000 in
theorem manifestEscapes_walk (s : ByteArray) (kind : Int) (w : World) (hW : Words w) :
    Calls Tryd.prog 3 #[.string s, .int .i64 kind] w fun e w' => e = .returned (.bool true) ∧ Below w.heap.size w w' := by
  by_cases hs : 3000 < s.size
  · have d : decide (3000 < (s.size : Int)) = true := decide_eq_true (by omega)
    go_enter Tryd.func3, Tryd.ntmps3
    go_wp2_with fail
    refine (awake30_c _ hW).mono ?_
    rintro e w1 ⟨rfl, hb1⟩
    go_wp2_with fail
    go_ret
    exact ⟨rfl, hb1⟩
  have d : decide (3000 < (s.size : Int)) = false := decide_eq_false (by omega)
  obtain ⟨f1, f2, f3⟩ := esc_facts s (by omega)
  have HF := Lib.hid f3
  have hE := fun w => escape_c s w (by omega)
  have hR := fun w => refescape_c s w (by omega)
  have hU := fun w => unescape_c (escT s) w f1
  rw [f2] at hU
  change ∀ w, Calls _ _ _ w fun e w' => e = .returned (.string (escT s)) ∧ _ at hE
  change ∀ w, Calls _ _ _ w fun e w' => e = .returned (.string (escT s)) ∧ _ at hR
  have HE := Lib.hid hE
  have HR := Lib.hid hR
  have HU := Lib.hid hU
  have hV := fun w => unescape_c s w (by omega)
  have hB := back_facts s (by omega)
  have HV := Lib.hid hV
  have HB := Lib.hid hB
  clear hE hR hU f2 f3 hV hB
  generalize escT s = t at *
  go_enter Tryd.func3, Tryd.ntmps3
  go_wp2_with fail
  refine (awake30_c _ hW).mono ?_
  rintro e w1 ⟨rfl, hb1⟩
  have hW1 := hW.after hb1
  go_wp2_with fail
  refine (HE.out _).mono ?_
  rintro e w2 ⟨rfl, hb2⟩
  have hW2 := hW1.after hb2
  have hbel2 := bl_trans hb1 hb2
  clear hW1 hb1 hb2
  go_wp2_with fail
  refine (HU.out _).mono ?_
  rintro e w3 ⟨rfl, hb3⟩
  have hW3 := hW2.after hb3
  have hbel3 := bl_trans hbel2 hb3
  clear hW2 hbel2 hb3
  go_wp2_with fail
  refine (HR.out _).mono ?_
  rintro e w4 ⟨rfl, hb4⟩
  have hW4 := hW3.after hb4
  have hbel4 := bl_trans hbel3 hb4
  clear hW3 hbel3 hb4
  go_wp2_with fail
  go_loopw [8] (fun i wr => ∃ k : Nat, k ≤ t.size ∧ i = .int .i64 k ∧ Below w4.heap.size w4 wr) (fun i _ => t.size - (intOf i).toNat)
  case atStart => exact ⟨0, by omega, rfl, Below.refl _ _⟩
  case round =>
    obtain ⟨k, hk, rfl, hbel⟩ := hrel
    by_cases hlt : k < t.size
    · have d1 : (k : Int) < t.size := by omega
      obtain ⟨q1, q2, q3, q4⟩ := HF.out k hlt
      generalize hc : ((t[k]).toNat : Int) = c at *
      have t1 : (c == 32) = false := beq_eq_false_iff_ne.2 q1
      have t2 : (c == 10) = false := beq_eq_false_iff_ne.2 q2
      have t3 : (c == 44) = false := beq_eq_false_iff_ne.2 q3
      have t4 : (c == 61) = false := beq_eq_false_iff_ne.2 q4
      clear q1 q2 q3 q4
      go_wp2_with fail
      go_roundw
      case rel => exact ⟨k + 1, by omega, by go_num, hbel⟩
      case measure => simp [intOf]; omega
    · obtain rfl : k = t.size := by omega
      have d1 : ¬ (t.size : Int) < t.size := by omega
      have hW5 := hW4.after hbel
      have hbel5 := bl_trans hbel4 hbel
      clear hW4 hbel4 hbel hlt
      have HWD := Lib.hid (word_c kind wr hW5)
      by_cases hk : 1 ≤ kind ∧ kind ≤ 4
      · rw [if_pos hk] at HWD
        have g1 : decide (1 ≤ kind) = true := decide_eq_true hk.1
        have g2 : decide (kind ≤ 4) = true := decide_eq_true hk.2
        have g3 := wordS_ne (kind.toNat - 1)
        clear hk
        generalize wordS (kind.toNat - 1) = wd at *
        go_wp2_with fail
        refine HWD.out.mono ?_
        rintro e w6 ⟨rfl, hb6⟩
        have hbel6 := bl_trans hbel5 hb6
        go_wp2_with fail
        refine (HV.out _).mono ?_
        rcases HB.out with hv | ⟨v, hv, hvs, hve⟩
        · rw [hv]
          rintro e w7 ⟨rfl, hb7⟩
          have hbel7 := bl_trans hbel6 hb7
          clear hv
          go_wp2_with fail
          go_ret
          exact ⟨rfl, hbel7⟩
        · have HL := Lib.hid (fun w => refescape_c v w hvs)
          change Hid (∀ w, Calls _ _ _ w fun e w' => e = .returned (.string (escT v)) ∧ _) at HL
          rw [hve] at HL
          rw [hv]
          rintro e w7 ⟨rfl, hb7⟩
          have hbel7 := bl_trans hbel6 hb7
          clear hv hve
          go_wp2_with fail
          refine (HL.out _).mono ?_
          rintro e w8 ⟨rfl, hb8⟩
          have hbel8 := bl_trans hbel7 hb8
          go_wp2_with fail
          go_ret
          exact ⟨rfl, hbel8⟩
      · rw [if_neg hk] at HWD
        have g : decide (1 ≤ kind) = false ∨ (decide (1 ≤ kind) = true ∧ decide (kind ≤ 4) = false) := by
          by_cases q : 1 ≤ kind
          · exact .inr ⟨decide_eq_true q, decide_eq_false (by omega)⟩
          · exact .inl (decide_eq_false q)
        clear hk
        rcases g with g1 | ⟨g1, g2⟩
        all_goals
          go_wp2_with fail
          refine HWD.out.mono ?_
          rintro e w6 ⟨rfl, hb6⟩
          have hbel6 := bl_trans hbel5 hb6
          go_wp2_with fail
          refine (HV.out _).mono ?_
          rcases HB.out with hv | ⟨v, hv, hvs, hve⟩
          · rw [hv]
            rintro e w7 ⟨rfl, hb7⟩
            have hbel7 := bl_trans hbel6 hb7
            clear hv
            go_wp2_with fail
            go_ret
            exact ⟨rfl, hbel7⟩
          · have HL := Lib.hid (fun w => refescape_c v w hvs)
            change Hid (∀ w, Calls _ _ _ w fun e w' => e = .returned (.string (escT v)) ∧ _) at HL
            rw [hve] at HL
            rw [hv]
            rintro e w7 ⟨rfl, hb7⟩
            have hbel7 := bl_trans hbel6 hb7
            clear hv hve
            go_wp2_with fail
            refine (HL.out _).mono ?_
            rintro e w8 ⟨rfl, hb8⟩
            have hbel8 := bl_trans hbel7 hb8
            go_wp2_with fail
            go_ret
            exact ⟨rfl, hbel8⟩
end Go.Proofs.YtanflcccjjbkgaaDoor
