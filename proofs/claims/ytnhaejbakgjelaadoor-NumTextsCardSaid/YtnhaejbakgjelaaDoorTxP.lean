/- The plain law of the texts: a number is its digits, and digits are a number's. -/
import Derived.Test.YtnhaejbakgjelaaDoorPrt
import Derived.Lib.SlTrimSet
namespace Go.Proofs.YtnhaejbakgjelaaDoor
open Go.RowKit

/-- a byte of a text; its digit; the number of the first k digits -/
def tB (s : ByteArray) (i : Nat) : Nat := if h : i < s.size then (s[i]).toNat else 0
def tD (s : ByteArray) (i : Nat) : Nat := tB s i - 48
def valN (d : Nat → Nat) : Nat → Nat
  | 0 => 0
  | k + 1 => valN d k * 10 + d k
def allDig (s : ByteArray) : Prop := ∀ i, i < s.size → 48 ≤ tB s i ∧ tB s i ≤ 57
/-- has the text the form of a number's -/
def formed (s : ByteArray) : Prop := s.size ≠ 0 ∧ ¬ (1 < s.size ∧ tB s 0 = 48) ∧ allDig s
theorem tB_at {s : ByteArray} {i : Nat} (h : i < s.size) : tB s i = (s[i]).toNat := dif_pos h
theorem tB_lt (s : ByteArray) (i : Nat) : tB s i < 256 := by
  unfold tB; split
  · exact UInt8.toNat_lt _
  · omega
theorem valN_congr {d e : Nat → Nat} : ∀ {k}, (∀ i, i < k → d i = e i) → valN d k = valN e k
  | 0, _ => rfl
  | k + 1, h => by rw [valN, valN, valN_congr fun i hi => h i (by omega), h k (by omega)]
theorem valN_mono (d : Nat → Nat) (k : Nat) : ∀ m, valN d k ≤ valN d (k + m)
  | 0 => Nat.le_refl _
  | m + 1 => by have := valN_mono d k m; rw [show k + (m + 1) = (k + m) + 1 from rfl, valN]; omega
theorem valN_big {d : Nat → Nat} (h : d 0 ≠ 0) : ∀ k, 10 ^ k ≤ valN d (k + 1)
  | 0 => by simp [valN]; omega
  | k + 1 => by have := valN_big h k; rw [valN, Nat.pow_succ]; omega
def digV (d : Nat → Nat) (k : Nat) : List Int := (List.range k).map fun i => ((48 + d i : Nat) : Int)
theorem digV_succ (d : Nat → Nat) (k : Nat) : digV d (k + 1) = digV d k ++ [((48 + d k : Nat) : Int)] := by simp [digV, List.range_succ]
theorem digV_congr {d e : Nat → Nat} {k : Nat} (h : ∀ i, i < k → d i = e i) : digV d k = digV e k := by
  unfold digV; exact List.map_congr_left fun i hi => by rw [h i (List.mem_range.1 hi)]
/-- digits whose first one is no nought are the number's own -/
theorem digs_own {d : Nat → Nat} (hd : ∀ i, d i < 10) : ∀ k f, 1 ≤ k → k ≤ f → (1 < k → d 0 ≠ 0) → digR f (valN d k) = (digV d k).reverse
  | 0, _, h, _, _ => absurd h (by omega)
  | k + 1, 0, _, h, _ => absurd h (by omega)
  | k + 1, f + 1, _, hf, h0 => by
    have hk := hd k
    rw [digV_succ, List.reverse_append]
    show (48 + (((valN d k * 10 + d k) % 10 : Nat) : Int)) :: (if (valN d k * 10 + d k) / 10 = 0 then [] else digR f ((valN d k * 10 + d k) / 10)) = _
    rw [show (valN d k * 10 + d k) % 10 = d k from by omega, show (valN d k * 10 + d k) / 10 = valN d k from by omega]
    rcases Nat.eq_zero_or_pos k with z | z
    · subst z
      rw [if_pos (show valN d 0 = 0 from rfl)]
      simp [digV]
    · have hne : valN d k ≠ 0 := by
        obtain ⟨j, rfl⟩ : ∃ j, k = j + 1 := ⟨k - 1, by omega⟩
        have := valN_big (h0 (by omega)) j
        have := Nat.pos_of_ne_zero (show 10 ^ j ≠ 0 from Nat.pos_iff_ne_zero.1 (Nat.pow_pos (by omega)))
        omega
      rw [if_neg hne, digs_own hd k f z (by omega) fun h => h0 (by omega)]
      simp
/-- each number's digits -/
theorem digs_make : ∀ f A, A < 10 ^ (f + 1) → ∃ (k : Nat) (d : Nat → Nat), 1 ≤ k ∧ k ≤ f + 1 ∧ (∀ i, d i < 10) ∧ (1 < k → d 0 ≠ 0) ∧ valN d k = A
  | 0, A, h => ⟨1, fun _ => A, by omega, by omega, fun _ => by simpa using h, fun h => absurd h (by omega), by simp [valN]⟩
  | f + 1, A, h => by
    by_cases hA : A < 10
    · exact ⟨1, fun _ => A, by omega, by omega, fun _ => hA, fun h => absurd h (by omega), by simp [valN]⟩
    · have hlt : A / 10 < 10 ^ (f + 1) := by rw [Nat.pow_succ] at h; omega
      obtain ⟨k, d, h1, h2, h3, h4, h5⟩ := digs_make f (A / 10) hlt
      refine ⟨k + 1, fun i => if i = k then A % 10 else d i, by omega, by omega, fun i => ?_, fun _ => ?_, ?_⟩
      · show (if i = k then A % 10 else d i) < 10
        by_cases e : i = k
        · rw [if_pos e]; omega
        · rw [if_neg e]; exact h3 i
      · show (if 0 = k then A % 10 else d 0) ≠ 0
        rw [if_neg (by omega)]
        rcases Nat.lt_or_ge 1 k with z | z
        · exact h4 z
        · obtain rfl : k = 1 := by omega
          simp [valN] at h5
          omega
      · rw [valN, if_pos rfl, valN_congr (e := d) fun i hi => if_neg (by omega), h5]
        omega
theorem tB_digs {d : Nat → Nat} (hd : ∀ i, d i < 10) {k i : Nat} (hi : i < k) : tB (strOfNums (digV d k)) i = 48 + d i := by
  have hs : i < (strOfNums (digV d k)).size := by rw [strOfNums_size]; simpa [digV] using hi
  rw [tB_at hs]
  have h2 := hd i
  have : (strOfNums (digV d k))[i] = UInt8.ofNat (48 + d i) := by
    show ((digV d k).map fun n => UInt8.ofNat n.toNat).toArray[i]'_ = _
    simp only [digV, List.map_map, List.getElem_toArray, List.getElem_map, List.getElem_range, Function.comp]
    rw [Int.toNat_natCast]
  rw [this, UInt8.toNat_ofNat']
  omega
theorem size_digs (d : Nat → Nat) (k : Nat) : (strOfNums (digV d k)).size = k := by rw [strOfNums_size]; simp [digV]
theorem decI_digs {d : Nat → Nat} {k : Nat} (hd : ∀ i, d i < 10) (h1 : 1 ≤ k) (h2 : k ≤ 40) (h0 : 1 < k → d 0 ≠ 0) : decI (valN d k) = digV d k := by
  unfold decI; rw [digs_own hd k 40 h1 h2 h0, List.reverse_reverse]
/-- the text of a number is formed, and is that number's -/
theorem text_make {A : Nat} (h : A < 340282366920938463463374607431768211456) : formed (strOfNums (decI A)) ∧ (strOfNums (decI A)).size ≤ 39 ∧ valN (tD (strOfNums (decI A))) (strOfNums (decI A)).size = A := by
  obtain ⟨k, d, h1, h2, h3, h4, rfl⟩ := digs_make 38 A (by omega)
  rw [decI_digs h3 h1 (by omega) h4, size_digs]
  have hb : ∀ i, i < k → tB (strOfNums (digV d k)) i = 48 + d i := fun i hi => tB_digs h3 hi
  refine ⟨⟨by rw [size_digs]; omega, fun ⟨a, b⟩ => ?_, fun i hi => ?_⟩, by omega, valN_congr fun i hi => ?_⟩
  · rw [size_digs] at a
    rw [hb 0 (by omega)] at b
    exact h4 a (by omega)
  · rw [size_digs] at hi
    rw [hb i hi]
    have := h3 i
    omega
  · unfold tD; rw [hb i hi]; omega
theorem tD_lt {s : ByteArray} (h : allDig s) (i : Nat) : tD s i < 10 := by
  unfold tD
  by_cases hi : i < s.size
  · have := h i hi; omega
  · unfold tB; rw [dif_neg hi]; omega
theorem size_le {s : ByteArray} (h : formed s) (hv : valN (tD s) s.size < 340282366920938463463374607431768211456) : s.size ≤ 39 := by
  obtain ⟨h0, h1, h2⟩ := h
  rcases Nat.lt_or_ge 39 s.size with k | k
  · exfalso
    have hd0 : tD s 0 ≠ 0 := by
      have := h2 0 (by omega)
      unfold tD
      intro e
      exact h1 ⟨by omega, by omega⟩
    obtain ⟨m, hm⟩ : ∃ m, s.size = (39 + m) + 1 := ⟨s.size - 40, by omega⟩
    rw [hm] at hv
    have h3 := valN_big hd0 (39 + m)
    have h4 : 10 ^ 39 ≤ 10 ^ (39 + m) := Nat.pow_le_pow_right (by omega) (by omega)
    omega
  · exact k
/-- a formed text is the text of its number -/
theorem text_back {s : ByteArray} (h : formed s) (hv : valN (tD s) s.size < 340282366920938463463374607431768211456) : strOfNums (decI (valN (tD s) s.size)) = s := by
  have hle := size_le h hv
  obtain ⟨h0, h1, h2⟩ := h
  rw [decI_digs (tD_lt h2) (by omega) (by omega) fun a e => h1 ⟨a, by have := h2 0 (by omega); unfold tD at e; omega⟩]
  apply ByteArray.ext
  apply Array.ext
  · show (digV (tD s) s.size |>.map fun n => UInt8.ofNat n.toNat).toArray.size = _
    simp [digV]
  · intro i hi hi'
    have hi2 : i < s.size := hi'
    show ((digV (tD s) s.size).map fun n => UInt8.ofNat n.toNat).toArray[i]'_ = s.data[i]
    have h3 := h2 i hi2
    rw [tB_at hi2] at h3
    have e : tD s i = (s[i]).toNat - 48 := by unfold tD; rw [tB_at hi2]
    simp only [digV, List.map_map, List.getElem_toArray, List.getElem_map, List.getElem_range, Function.comp]
    rw [e]
    apply UInt8.toNat.inj
    rw [UInt8.toNat_ofNat']
    have e2 : s.data[i] = s[i] := rfl
    rw [e2]
    omega
end Go.Proofs.YtnhaejbakgjelaaDoor
