/- Addresses: printed. -/
import Derived.Test.YtgdgklibilddgaaDoorAdH
namespace Go.Proofs.YtgdgklibilddgaaDoor
open Go.RowKit

theorem info_str : (Tryd.prog.info? 9).map (fun i => (i.zero, i.size, i.bytes)) = some (some (.string ByteArray.empty), 1, 16) := by kernel_rfl
def strsV (l : List ByteArray) : List Value := l.map Value.string
def hexT (g : Nat) : ByteArray := ⟨(hexD g).toArray⟩
/-- strings.Join of a row of the call's own -/
theorem join_c {v : Value} {base : Nat} {xs : List ByteArray} (sep : ByteArray) (w : World) (h : w.ownsRow base 9 1 v xs.length (strsV xs)) (hl : (Lib.join (xs.map bts) (bts sep)).length ≤ 1000000) (hx : xs.length ≤ 1000000) :
    Calls Tryd.prog 58 #[v, .string sep] w fun e w' => e = .returned (.string ⟨(Lib.join (xs.map bts) (bts sep)).toArray⟩) ∧ Below w.heap.size w w' := by
  obtain ⟨a, c, rfl⟩ := own_slice h
  rcases Nat.eq_zero_or_pos xs.length with h0 | h0
  · have : xs = [] := List.eq_nil_of_length_eq_zero h0
    subst this
    refine (Tryd.strings_Join_none a c sep w).mono ?_
    rintro e w' ⟨rfl, rfl⟩
    exact ⟨rfl, Below.refl _ _⟩
  · obtain ⟨g, rfl, hg, hc⟩ := own_at h h0
    have hcap : xs.length ≤ c := by
      rcases h.2 with ⟨hv, h1⟩ | ⟨g', cap, cur, hv, _, _, hcap, _⟩
      · omega
      · injection hv with _ _ hv; omega
    exact Tryd.strings_Join g 0 c xs sep w (fun j x hj => by
      have hjl : j < xs.length := (List.getElem?_eq_some_iff.1 hj).1
      rw [Nat.zero_add, hc j hjl]; simp [strsV, hj]) hg (by omega) hcap (Nat.le_trans hl (by omega))
theorem join_len {c : List UInt8} {m : Nat} : ∀ {l : List (List UInt8)}, (∀ p ∈ l, p.length ≤ m) → (Lib.join l c).length ≤ l.length * (m + c.length)
  | [], _ => by simp [Lib.join, List.intercalate]
  | [p], h => by rw [join_one]; have := h p (by simp); simp; omega
  | p :: x :: q, h => by
    rw [join_cons, List.length_append, List.length_append, List.length_cons, Nat.succ_mul]
    have h1 := h p (by simp)
    have h2 := join_len (l := x :: q) (c := c) (fun y hy => h y (by simp [hy]))
    omega
theorem hexD_len (g : Nat) : (hexD g).length ≤ 4 := by unfold hexD; (repeat' split) <;> simp
set_option maxRecDepth 100000 in
set_option maxHeartbeats 3200000 in
theorem words_c (g o n c : Nat) (L : List Nat) (w : World) (hn : L.length = n) (h8 : n ≤ 8) (hL : ∀ x ∈ L, x < 65536) (hc : ∀ j, (h : j < L.length) → w.cell? ⟨g, o + j, none⟩ = some (.int .u16 (L[j] : Nat))) (hg : g < w.heap.size) (hG : Glob w) :
    Calls Tryd.prog 29 #[.slice (some ⟨g, o, none⟩) n c] w fun e w' => e = .returned (.string ⟨(joinH L).toArray⟩) ∧ Below w.heap.size w w' := by
  have HC := Lib.hid hc
  have HN := Lib.hid hn
  have HL := Lib.hid hL
  obtain ⟨i0, hi0, hz0, hz1, hz2⟩ := info_parts info_str
  clear hc hn hL
  go_enter Tryd.func29, Tryd.ntmps29
  go_wp2_with fail
  go_loopw [3, 8] (fun so i wr => ∃ k : Nat, k ≤ n ∧ i = .int .i64 k ∧ wr.ownsRow w.heap.size 9 1 so k (strsV ((L.take k).map hexT)) ∧ Below w.heap.size w wr) (fun _ i _ => n - (intOf i).toNat)
  case atStart => exact ⟨0, by omega, rfl, World.ownsRow_nil _ _ _ _, Below.refl _ _⟩
  case round =>
    obtain ⟨k, hk, rfl, hown, hbel⟩ := hrel
    have hz := hbel.size
    by_cases hlt : k < n
    · have d1 : (k : Int) < n := by omega
      have hkL : k < L.length := by rw [HN.out]; exact hlt
      have hcell := (hbel.cell (p := ⟨g, o + k, none⟩) hg).trans (HC.out k hkL)
      have hx6 := HL.out L[k] (List.getElem_mem hkL)
      have hT : strsV ((L.take (k + 1)).map hexT) = strsV ((L.take k).map hexT) ++ [.string (hexT L[k])] := by rw [List.take_succ_eq_append_getElem hkL]; simp only [strsV, List.map_append, List.map_cons, List.map_nil]
      have HT := Lib.hid hT
      have HF := Lib.hid (fuint_c L[k] wr hx6 (hG.after hbel))
      generalize L[k] = x at *
      have hcw : IntKind.u64.wrap (x : Int) = x := by show (x : Int) % 18446744073709551616 = x; omega
      clear hT hkL
      go_wp2_with fail
      refine HF.out.mono ?_
      rintro e w1 ⟨rfl, hb1⟩
      have hown1 := own_after hown hb1
      have hbel2 := bl_trans hbel hb1
      have hsz2 := hbel2.size
      clear hown hbel hb1 hz hcell
      change Hid (strsV _ = strsV _ ++ [.string ⟨(hexD x).toArray⟩]) at HT
      go_wp2_with (at_builtin; refine wpList_append_own _ rfl _ _ 87 rfl w.heap.size 9 i0 (.string ByteArray.empty) 1 16 Tryd.underlying87 hi0 hz0 hz1 hz2 rfl (by decide) _ _ _ rfl (hown1.alloc _) ⟨w1.heap.size, 0, none⟩ 1 1 [.string ⟨(hexD x).toArray⟩] rfl rfl ?z1_1 ?z1_2 ?z1_3 ?z1_4 ?z1_5 ?_)
      (try case z1_1 => exact cell_list _ _ _)
      (try case z1_2 => (first | exact one_cell_k _ _ | (intro u hu; simp at hu; (try rcases hu with rfl | rfl) <;> (try subst hu) <;> rfl)))
      case z1_3 => (first | (simp only [maxLen]; omega) | omega)
      case z1_4 => omega
      case z1_5 => (first | omega | (simp; omega))
      intro v' wa hown' hgrow _
      have hbel1 := below_own hbel2 hown1 (Nat.le_refl _) hgrow
      go_wp2_with fail
      go_roundw
      case rel => exact ⟨k + 1, by omega, by go_num, by rw [HT.out, List.map_take]; exact hown', hbel1⟩
      case measure => simp [intOf]; omega
    · obtain rfl : k = n := by omega
      have d1 : ¬ (k : Int) < k := by omega
      rw [List.take_of_length_le (by rw [HN.out]; exact Nat.le_refl _)] at hown
      have hb : (L.map hexT).map bts = L.map hexD := by rw [List.map_map]; apply List.map_congr_left; intro x _; exact bts_mk _
      have hj : Lib.join ((L.map hexT).map bts) (bts ⟨#[58]⟩) = joinH L := by rw [hb]; rfl
      have hjl : (joinH L).length ≤ 1000000 := by
        have := join_len (c := [58]) (m := 4) (l := L.map hexD) (fun p hp => by
          obtain ⟨x, _, rfl⟩ := List.mem_map.1 hp
          exact hexD_len x)
        rw [List.length_map, HN.out] at this
        refine Nat.le_trans this ?_
        simp; omega
      have HJ := Lib.hid (join_c (xs := L.map hexT) ⟨#[58]⟩ wr (by rw [List.length_map, HN.out]; exact hown) (by rw [hj]; exact hjl) (by rw [List.length_map, HN.out]; omega))
      rw [hj] at HJ
      clear hj hb hjl
      go_wp2_with fail
      refine HJ.out.mono ?_
      rintro e w1 ⟨rfl, hb1⟩
      go_wp2_with fail
      go_ret
      exact ⟨rfl, bl_trans hbel hb1⟩
end Go.Proofs.YtgdgklibilddgaaDoor
