/- Objects: the small walks (within, texts, labels). -/
import Derived.Test.YtanflcccjjbkgaaDoorOwn
import Derived.Test.YtanflcccjjbkgaaDoorShelf
namespace Go.Proofs.YtanflcccjjbkgaaDoor
open Go.RowKit

theorem cell_blt {w : World} {p : Addr} {v : Value} (h : w.cell? p = some v) : p.block < w.heap.size := World.block_lt_of_cell? w p h
theorem within_c (n most : Int) (w : World) :
    Calls Tryd.prog 69 #[.int .i64 n, .int .i64 most] w fun e w' => e = .returned (.bool (decide (0 ≤ n ∧ n ≤ most))) ∧ Below w.heap.size w w' := by
  by_cases h1 : 0 ≤ n
  · by_cases h2 : n ≤ most
    · rw [decide_eq_true (⟨h1, h2⟩ : 0 ≤ n ∧ n ≤ most)]
      have d1 := decide_eq_true h1
      have d2 := decide_eq_true h2
      go_enter Tryd.func69, Tryd.ntmps69
      go_wp2_with fail
      go_ret
      exact ⟨rfl, (by repeat (first | (with_reducible exact Below.refl _ _) | (with_reducible assumption) | (with_reducible refine bl_alloc ?_ _) | (with_reducible refine bl_drew ?_) | (with_reducible refine bl_drewN ?_ _) | (with_reducible refine bl_set ?_ (by first | (simp; done) | (simp; omega)) _) | (with_reducible refine bl_trans ?_ ‹_›)))⟩
    · rw [decide_eq_false (fun h => h2 h.2 : ¬ (0 ≤ n ∧ n ≤ most))]
      have d1 := decide_eq_true h1
      have d2 := decide_eq_false h2
      go_enter Tryd.func69, Tryd.ntmps69
      go_wp2_with fail
      go_ret
      exact ⟨rfl, (by repeat (first | (with_reducible exact Below.refl _ _) | (with_reducible assumption) | (with_reducible refine bl_alloc ?_ _) | (with_reducible refine bl_drew ?_) | (with_reducible refine bl_drewN ?_ _) | (with_reducible refine bl_set ?_ (by first | (simp; done) | (simp; omega)) _) | (with_reducible refine bl_trans ?_ ‹_›)))⟩
  · rw [decide_eq_false (fun h => h1 h.1 : ¬ (0 ≤ n ∧ n ≤ most))]
    have d1 := decide_eq_false h1
    go_enter Tryd.func69, Tryd.ntmps69
    go_wp2_with fail
    go_ret
    exact ⟨rfl, (by repeat (first | (with_reducible exact Below.refl _ _) | (with_reducible assumption) | (with_reducible refine bl_alloc ?_ _) | (with_reducible refine bl_drew ?_) | (with_reducible refine bl_drewN ?_ _) | (with_reducible refine bl_set ?_ (by first | (simp; done) | (simp; omega)) _) | (with_reducible refine bl_trans ?_ ‹_›)))⟩
/-- a slice of strings that reads as l -/
def StrsAt (w : World) (v : Value) (l : List ByteArray) : Prop :=
  l.length ≤ 1000000 ∧ ((∃ a c, v = .slice a 0 c ∧ l = []) ∨ ∃ b o c, v = .slice (some ⟨b, o, none⟩) l.length c ∧ 0 < l.length ∧ ∀ j, j < l.length → w.cell? ⟨b, o + j, none⟩ = some (.string (l.getD j ByteArray.empty)))
theorem StrsAt.form {w : World} {v : Value} {l : List ByteArray} (h : StrsAt w v l) : ∃ a c, v = .slice a l.length c := by
  rcases h.2 with ⟨a, c, rfl, rfl⟩ | ⟨b, o, c, rfl, _⟩
  · exact ⟨a, c, rfl⟩
  · exact ⟨_, c, rfl⟩
theorem StrsAt.after {w w' : World} {v : Value} {l : List ByteArray} (h : StrsAt w v l) (hb : Below w.heap.size w w') : StrsAt w' v l := by
  refine ⟨h.1, h.2.imp id ?_⟩
  rintro ⟨b, o, c, hv, h0, hc⟩
  refine ⟨b, o, c, hv, h0, fun j hj => ?_⟩
  have hlt : b < w.heap.size := by
    rcases Nat.lt_or_ge b w.heap.size with k | k
    · exact k
    · have := hc j hj
      unfold World.cell? at this
      rw [Array.getElem?_eq_none k] at this; cases this
  exact (hb.cell (p := ⟨b, o + j, none⟩) hlt).trans (hc j hj)
set_option maxRecDepth 100000 in
theorem textsF_c (s : ByteArray) (w : World) :
    Calls Tryd.prog 89 #[.string s] w fun e w' => e = .returned (.bool (decide (200 < (s.size : Int)))) ∧ Below w.heap.size w w' := by
  go_enter Tryd.func89, Tryd.ntmps89
  go_wp2_with fail
  go_ret
  exact ⟨rfl, (by repeat (first | (with_reducible exact Below.refl _ _) | (with_reducible assumption) | (with_reducible refine bl_alloc ?_ _) | (with_reducible refine bl_drew ?_) | (with_reducible refine bl_drewN ?_ _) | (with_reducible refine bl_set ?_ (by first | (simp; done) | (simp; omega)) _) | (with_reducible refine bl_trans ?_ ‹_›)))⟩
def textsFn : Value := .func (.func 89) #[] #[]
theorem getD_mem {l : List ByteArray} {k : Nat} (h : k < l.length) : l.getD k ByteArray.empty ∈ l := by
  rw [List.getD_eq_getElem?_getD, List.getElem?_eq_getElem h]
  exact List.getElem_mem h
theorem mem_getD {l : List ByteArray} {s : ByteArray} (h : s ∈ l) : ∃ k, k < l.length ∧ s = l.getD k ByteArray.empty := by
  obtain ⟨k, hk, rfl⟩ := List.mem_iff_getElem.1 h
  exact ⟨k, hk, by simp [List.getD, hk]⟩
set_option maxRecDepth 100000 in
theorem indexT_c (v : Value) (l : List ByteArray) (w : World) (h : StrsAt w v l) :
    Calls Tryd.prog 98 #[v, textsFn] w fun e w' => (∃ i : Int, e = .returned (.int .i64 i) ∧ (0 ≤ i ↔ ∃ s ∈ l, 200 < s.size)) ∧ Below w.heap.size w w' := by
  have hl := h.1
  have H := Lib.hid h
  rcases h.2 with ⟨a, c, rfl, rfl⟩ | ⟨b, o, c, rfl, h0, hc⟩
  · clear h
    unfold textsFn
    go_enter Tryd.func98, Tryd.ntmps98
    go_wp2_with fail
    refine wp_loop_rounds 1 ?_
    rw [rounds_succ]
    go_wp2_with fail
    go_ret
    exact ⟨⟨_, rfl, by simp⟩, (by repeat (first | (with_reducible exact Below.refl _ _) | (with_reducible assumption) | (with_reducible refine bl_alloc ?_ _) | (with_reducible refine bl_drew ?_) | (with_reducible refine bl_drewN ?_ _) | (with_reducible refine bl_set ?_ (by first | (simp; done) | (simp; omega)) _) | (with_reducible refine bl_trans ?_ ‹_›)))⟩
  · clear h
    have HC := Lib.hid hc
    clear hc
    unfold textsFn
    go_enter Tryd.func98, Tryd.ntmps98
    go_wp2_with fail
    go_loopw [8] (fun i wr => ∃ k : Nat, k ≤ l.length ∧ i = .int .i64 k ∧ (∀ j, j < k → ¬ 200 < (l.getD j ByteArray.empty).size) ∧ Below w.heap.size w wr) (fun i _ => l.length - (intOf i).toNat)
    case atStart => exact ⟨0, by omega, rfl, fun j hj => absurd hj (by omega), (by repeat (first | (with_reducible exact Below.refl _ _) | (with_reducible assumption) | (with_reducible refine bl_alloc ?_ _) | (with_reducible refine bl_drew ?_) | (with_reducible refine bl_drewN ?_ _) | (with_reducible refine bl_set ?_ (by first | (simp; done) | (simp; omega)) _) | (with_reducible refine bl_trans ?_ ‹_›)))⟩
    case round =>
      obtain ⟨k, hk, rfl, hno, hbel⟩ := hrel
      have HNO := Lib.hid hno
      clear hno
      by_cases hlt : k < l.length
      · have d1 : (k : Int) < l.length := by omega
        have hcell := HC.out k hlt
        obtain ⟨S, hS⟩ : ∃ S, l.getD k ByteArray.empty = S := ⟨_, rfl⟩
        rw [hS] at hcell
        have HS := Lib.hid hS
        clear hS
        have hb : b < w.heap.size := by
          rcases Nat.lt_or_ge b w.heap.size with q | q
          · exact q
          · unfold World.cell? at hcell
            rw [Array.getElem?_eq_none q] at hcell; cases hcell
        have hcell2 := (hbel.cell (p := ⟨b, o + k, none⟩) hb).trans hcell
        clear hcell
        go_wp2_with fail
        refine (textsF_c _ _).mono ?_
        rintro e w1 ⟨rfl, hb1⟩
        have hbel1 := bl_trans hbel hb1
        by_cases hbig : 200 < S.size
        · rw [decide_eq_true (show 200 < (S.size : Int) by omega)]
          go_wp2_with fail
          go_ret
          refine ⟨⟨_, rfl, ⟨fun _ => ⟨_, getD_mem hlt, by rw [HS.out]; exact hbig⟩, fun _ => by omega⟩⟩, hbel1⟩
        · rw [decide_eq_false (show ¬ 200 < (S.size : Int) by omega)]
          go_wp2_with fail
          go_roundw
          case rel => exact ⟨k + 1, by omega, by go_num, fun j hj => by rcases Nat.lt_or_ge j k with q | q; exact HNO.out j q; (have : j = k := by omega); rw [this, HS.out]; exact hbig, hbel1⟩
          case measure => simp [intOf]; omega
      · obtain rfl : k = l.length := by omega
        have d1 : ¬ (l.length : Int) < l.length := by omega
        go_wp2_with fail
        go_ret
        refine ⟨⟨_, rfl, ⟨fun h => absurd h (by decide), fun ⟨s, hs, hb⟩ => ?_⟩⟩, hbel⟩
        obtain ⟨j, hj, rfl⟩ := mem_getD hs
        exact absurd hb (HNO.out j hj)
end Go.Proofs.YtanflcccjjbkgaaDoor
