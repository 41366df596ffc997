/- Objects: texts, labels. -/
import Derived.Test.YtanflcccjjbkgaaDoorObA
namespace Go.Proofs.YtanflcccjjbkgaaDoor
open Go.RowKit

set_option maxRecDepth 100000 in
theorem hasT_c (v : Value) (l : List ByteArray) (w : World) (h : StrsAt w v l) :
    Calls Tryd.prog 88 #[v, textsFn] w fun e w' => e = .returned (.bool (decide (∃ s ∈ l, 200 < s.size))) ∧ Below w.heap.size w w' := by
  go_enter Tryd.func88, Tryd.ntmps88
  go_wp2_with fail
  refine (indexT_c v l _ h).mono ?_
  rintro e w1 ⟨⟨i, rfl, hi⟩, hb1⟩
  by_cases hx : ∃ s ∈ l, 200 < s.size
  · have d := decide_eq_true (hi.2 hx)
    have HX := Lib.hid hx
    clear hi hx
    go_wp2_with fail
    go_ret
    exact ⟨by rw [decide_eq_true HX.out]; rfl, hb1⟩
  · have d : decide (0 ≤ i) = false := decide_eq_false (fun k => hx (hi.1 k))
    have HX := Lib.hid hx
    clear hi hx
    go_wp2_with fail
    go_ret
    exact ⟨by rw [decide_eq_false HX.out]; rfl, hb1⟩
def textsB (l : List ByteArray) (most : Int) : Bool := decide ((l.length : Int) ≤ most) && !decide (∃ s ∈ l, 200 < s.size)
set_option maxRecDepth 100000 in
theorem texts_c (v : Value) (l : List ByteArray) (most : Int) (w : World) (h : StrsAt w v l) :
    Calls Tryd.prog 70 #[v, .int .i64 most] w fun e w' => e = .returned (.bool (textsB l most)) ∧ Below w.heap.size w w' := by
  obtain ⟨a, c, rfl⟩ := h.form
  unfold textsB
  have H := Lib.hid (fun w h => hasT_c (.slice a l.length c) l w h)
  generalize decide (∃ s ∈ l, 200 < s.size) = t at H ⊢
  by_cases hm : (l.length : Int) ≤ most
  · have d := decide_eq_true hm
    rw [d]
    clear hm
    go_enter Tryd.func70, Tryd.ntmps70
    go_wp2_with fail
    refine (H.out _ h).mono ?_
    rintro e w1 ⟨rfl, hb1⟩
    go_wp2_with fail
    go_ret
    exact ⟨rfl, hb1⟩
  · have d := decide_eq_false hm
    rw [d]
    clear hm
    go_enter Tryd.func70, Tryd.ntmps70
    go_wp2_with fail
    go_ret
    exact ⟨rfl, (by repeat (first | (with_reducible exact Below.refl _ _) | (with_reducible assumption) | (with_reducible refine bl_alloc ?_ _) | (with_reducible refine bl_drew ?_) | (with_reducible refine bl_drewN ?_ _) | (with_reducible refine bl_set ?_ (by first | (simp; done) | (simp; omega)) _) | (with_reducible refine bl_trans ?_ ‹_›)))⟩
/-- a slice of pairs that reads as l -/
def PairsAt (w : World) (v : Value) (l : List (ByteArray × ByteArray)) : Prop :=
  l.length ≤ 1000000 ∧ ((∃ a c, v = .slice a 0 c ∧ l = []) ∨ ∃ b o c, v = .slice (some ⟨b, o, none⟩) l.length c ∧ 0 < l.length ∧
    ∀ j p, l[j]? = some p → w.cell? ⟨b, o + j * 2, none⟩ = some (.string p.1) ∧ w.cell? ⟨b, o + j * 2 + 1, none⟩ = some (.string p.2))
theorem PairsAt.form {w : World} {v : Value} {l : List (ByteArray × ByteArray)} (h : PairsAt w v l) : ∃ a c, v = .slice a l.length c := by
  rcases h.2 with ⟨a, c, rfl, rfl⟩ | ⟨b, o, c, rfl, _⟩
  · exact ⟨a, c, rfl⟩
  · exact ⟨_, c, rfl⟩
def labelsFn : Value := .func (.func 91) #[] #[]
set_option maxRecDepth 100000 in
theorem labelsF_c (k v : ByteArray) (w : World) :
    Calls Tryd.prog 91 #[.agg #[.string k, .string v]] w fun e w' => e = .returned (.bool (decide (200 < k.size ∨ 200 < v.size))) ∧ Below w.heap.size w w' := by
  by_cases h1 : 200 < k.size
  · have d1 : decide (200 < (k.size : Int)) = true := decide_eq_true (by omega)
    rw [decide_eq_true (.inl h1)]
    go_enter Tryd.func91, Tryd.ntmps91
    go_wp2_with fail
    go_ret
    exact ⟨rfl, (by repeat (first | (with_reducible exact Below.refl _ _) | (with_reducible assumption) | (with_reducible refine bl_alloc ?_ _) | (with_reducible refine bl_drew ?_) | (with_reducible refine bl_drewN ?_ _) | (with_reducible refine bl_set ?_ (by first | (simp; done) | (simp; omega)) _) | (with_reducible refine bl_trans ?_ ‹_›)))⟩
  · have d1 : decide (200 < (k.size : Int)) = false := decide_eq_false (by omega)
    by_cases h2 : 200 < v.size
    · have d2 : decide (200 < (v.size : Int)) = true := decide_eq_true (by omega)
      rw [decide_eq_true (.inr h2)]
      go_enter Tryd.func91, Tryd.ntmps91
      go_wp2_with fail
      go_ret
      exact ⟨rfl, (by repeat (first | (with_reducible exact Below.refl _ _) | (with_reducible assumption) | (with_reducible refine bl_alloc ?_ _) | (with_reducible refine bl_drew ?_) | (with_reducible refine bl_drewN ?_ _) | (with_reducible refine bl_set ?_ (by first | (simp; done) | (simp; omega)) _) | (with_reducible refine bl_trans ?_ ‹_›)))⟩
    · have d2 : decide (200 < (v.size : Int)) = false := decide_eq_false (by omega)
      rw [decide_eq_false (by omega)]
      go_enter Tryd.func91, Tryd.ntmps91
      go_wp2_with fail
      go_ret
      exact ⟨rfl, (by repeat (first | (with_reducible exact Below.refl _ _) | (with_reducible assumption) | (with_reducible refine bl_alloc ?_ _) | (with_reducible refine bl_drew ?_) | (with_reducible refine bl_drewN ?_ _) | (with_reducible refine bl_set ?_ (by first | (simp; done) | (simp; omega)) _) | (with_reducible refine bl_trans ?_ ‹_›)))⟩
set_option maxRecDepth 100000 in
theorem indexL_c (v : Value) (l : List (ByteArray × ByteArray)) (w : World) (h : PairsAt w v l) :
    Calls Tryd.prog 99 #[v, labelsFn] w fun e w' => (∃ i : Int, e = .returned (.int .i64 i) ∧ (0 ≤ i ↔ ∃ p ∈ l, 200 < p.1.size ∨ 200 < p.2.size)) ∧ Below w.heap.size w w' := by
  have hl := h.1
  rcases h.2 with ⟨a, c, rfl, rfl⟩ | ⟨b, o, c, rfl, h0, hc⟩
  · clear h
    unfold labelsFn
    go_enter Tryd.func99, Tryd.ntmps99
    go_wp2_with fail
    refine wp_loop_rounds 1 ?_
    rw [rounds_succ]
    go_wp2_with fail
    go_ret
    exact ⟨⟨_, rfl, by simp⟩, (by repeat (first | (with_reducible exact Below.refl _ _) | (with_reducible assumption) | (with_reducible refine bl_alloc ?_ _) | (with_reducible refine bl_drew ?_) | (with_reducible refine bl_drewN ?_ _) | (with_reducible refine bl_set ?_ (by first | (simp; done) | (simp; omega)) _) | (with_reducible refine bl_trans ?_ ‹_›)))⟩
  · clear h
    have HC := Lib.hid hc
    clear hc
    unfold labelsFn
    go_enter Tryd.func99, Tryd.ntmps99
    go_wp2_with fail
    go_loopw [8] (fun i wr => ∃ k : Nat, k ≤ l.length ∧ i = .int .i64 k ∧ (∀ j p, j < k → l[j]? = some p → ¬ (200 < p.1.size ∨ 200 < p.2.size)) ∧ Below w.heap.size w wr) (fun i _ => l.length - (intOf i).toNat)
    case atStart => exact ⟨0, by omega, rfl, fun j _ hj => absurd hj (by omega), (by repeat (first | (with_reducible exact Below.refl _ _) | (with_reducible assumption) | (with_reducible refine bl_alloc ?_ _) | (with_reducible refine bl_drew ?_) | (with_reducible refine bl_drewN ?_ _) | (with_reducible refine bl_set ?_ (by first | (simp; done) | (simp; omega)) _) | (with_reducible refine bl_trans ?_ ‹_›)))⟩
    case round =>
      obtain ⟨k, hk, rfl, hno, hbel⟩ := hrel
      have HNO := Lib.hid hno
      clear hno
      by_cases hlt : k < l.length
      · have d1 : (k : Int) < l.length := by omega
        obtain ⟨p, hp⟩ : ∃ p, l[k]? = some p := ⟨_, List.getElem?_eq_getElem hlt⟩
        obtain ⟨c0, c1⟩ := HC.out k p hp
        have HP := Lib.hid hp
        clear hp
        have hb : b < w.heap.size := cell_blt c0
        have e0 := (hbel.cell (p := ⟨b, o + k * 2, none⟩) hb).trans c0
        have e1 := (hbel.cell (p := ⟨b, o + k * 2 + 1, none⟩) hb).trans c1
        clear c0 c1
        obtain ⟨x, y⟩ := p
        go_wp2_with fail
        refine (labelsF_c _ _ _).mono ?_
        rintro e w1 ⟨rfl, hb1⟩
        have hbel1 := bl_trans hbel hb1
        by_cases hbig : 200 < x.size ∨ 200 < y.size
        · have HBG := Lib.hid hbig
          rw [decide_eq_true hbig]
          clear hbig
          go_wp2_with fail
          go_ret
          refine ⟨⟨_, rfl, ⟨fun _ => ⟨_, List.mem_of_getElem? HP.out, HBG.out⟩, fun _ => by omega⟩⟩, hbel1⟩
        · have HBG := Lib.hid hbig
          rw [decide_eq_false hbig]
          clear hbig
          go_wp2_with fail
          go_roundw
          case rel => exact ⟨k + 1, by omega, by go_num, fun j p hj hjp => by rcases Nat.lt_or_ge j k with q | q; exact HNO.out j p q hjp; (have : j = k := by omega); subst this; (have := HP.out); rw [hjp] at this; injection this with this; rw [this]; exact HBG.out, hbel1⟩
          case measure => simp [intOf]; omega
      · obtain rfl : k = l.length := by omega
        have d1 : ¬ (l.length : Int) < l.length := by omega
        go_wp2_with fail
        go_ret
        refine ⟨⟨_, rfl, ⟨fun h => absurd h (by decide), fun h => ?_⟩⟩, hbel⟩
        obtain ⟨x, y, hm, hb⟩ := h
        obtain ⟨j, hj, e⟩ := List.mem_iff_getElem.1 hm
        exact absurd hb (HNO.out j (x, y) hj (by rw [List.getElem?_eq_getElem hj, e]))
set_option maxRecDepth 100000 in
theorem hasL_c (v : Value) (l : List (ByteArray × ByteArray)) (w : World) (h : PairsAt w v l) :
    Calls Tryd.prog 90 #[v, labelsFn] w fun e w' => e = .returned (.bool (decide (∃ p ∈ l, 200 < p.1.size ∨ 200 < p.2.size))) ∧ Below w.heap.size w w' := by
  go_enter Tryd.func90, Tryd.ntmps90
  go_wp2_with fail
  refine (indexL_c v l _ h).mono ?_
  rintro e w1 ⟨⟨i, rfl, hi⟩, hb1⟩
  by_cases hx : ∃ p ∈ l, 200 < p.1.size ∨ 200 < p.2.size
  · have d := decide_eq_true (hi.2 hx)
    have HX := Lib.hid hx
    clear hi hx
    go_wp2_with fail
    go_ret
    exact ⟨by rw [decide_eq_true HX.out]; rfl, hb1⟩
  · have d : decide (0 ≤ i) = false := decide_eq_false (fun k => hx (hi.1 k))
    have HX := Lib.hid hx
    clear hi hx
    go_wp2_with fail
    go_ret
    exact ⟨by rw [decide_eq_false HX.out]; rfl, hb1⟩
def labelsB (l : List (ByteArray × ByteArray)) : Bool := decide ((l.length : Int) ≤ 16) && !decide (∃ p ∈ l, 200 < p.1.size ∨ 200 < p.2.size)
set_option maxRecDepth 100000 in
theorem labels_c (v : Value) (l : List (ByteArray × ByteArray)) (w : World) (h : PairsAt w v l) :
    Calls Tryd.prog 71 #[v] w fun e w' => e = .returned (.bool (labelsB l)) ∧ Below w.heap.size w w' := by
  obtain ⟨a, c, rfl⟩ := h.form
  unfold labelsB
  have H := Lib.hid (fun w h => hasL_c (.slice a l.length c) l w h)
  generalize decide (∃ p ∈ l, 200 < p.1.size ∨ 200 < p.2.size) = t at H ⊢
  by_cases hm : (l.length : Int) ≤ 16
  · have d := decide_eq_true hm
    rw [d]
    clear hm
    go_enter Tryd.func71, Tryd.ntmps71
    go_wp2_with fail
    refine (H.out _ h).mono ?_
    rintro e w1 ⟨rfl, hb1⟩
    go_wp2_with fail
    go_ret
    exact ⟨rfl, hb1⟩
  · have d := decide_eq_false hm
    rw [d]
    clear hm
    go_enter Tryd.func71, Tryd.ntmps71
    go_wp2_with fail
    go_ret
    exact ⟨rfl, (by repeat (first | (with_reducible exact Below.refl _ _) | (with_reducible assumption) | (with_reducible refine bl_alloc ?_ _) | (with_reducible refine bl_drew ?_) | (with_reducible refine bl_drewN ?_ _) | (with_reducible refine bl_set ?_ (by first | (simp; done) | (simp; omega)) _) | (with_reducible refine bl_trans ?_ ‹_›)))⟩
end Go.Proofs.YtanflcccjjbkgaaDoor
