/- The plain law of an address's text, VII: one round of the reference's reading. -/
import Derived.Test.YtgdgklibilddgaaDoorAeJ
import Derived.Test.YtgdgklibilddgaaDoorAdZ
namespace Go.Proofs.YtgdgklibilddgaaDoor

theorem take_at {s : ByteArray} {k : Nat} (h : k < s.size) : (bts s).take (k + 1) = (bts s).take k ++ [s[k]'h] := by
  have hl : k < (bts s).length := by simpa [bts] using h
  rw [List.take_succ_eq_append_getElem hl]
  rfl
theorem dec_snoc {p : List UInt8} {a : UInt8} (c : UInt8) : decide (c ∈ p ++ [a]) = (decide (c ∈ p) || (a.toNat : Int) == (c.toNat : Int)) := by
  by_cases h1 : c ∈ p
  · simp [h1]
  · by_cases h2 : a = c
    · simp [h1, h2]
    · have : ¬ a.toNat = c.toNat := fun k => h2 (UInt8.toNat.inj k)
      have h3 : ¬ c = a := fun k => h2 k.symm
      have h4 : ((a.toNat : Int) == (c.toNat : Int)) = false := by simp; omega
      rw [h4]
      simp [h1, h3]
theorem has_snoc {s : ByteArray} {k : Nat} (h : k < s.size) (c : UInt8) : decide (c ∈ (bts s).take (k + 1)) = (decide (c ∈ (bts s).take k) || ((s[k]'h).toNat : Int) == (c.toNat : Int)) := by
  rw [take_at h, dec_snoc]
theorem drop_end (s : ByteArray) : (bts s).drop s.size = [] := List.drop_of_length_le (by rw [bts_len]; exact Nat.le_refl _)
/-- the reading's state ahead of place x -/
def RefAt (s : ByteArray) (R : Option (Bool × Nat)) (x : Nat) (G : List Nat) (gap : Option Nat) : Prop :=
  x ≤ s.size ∧ (∀ g ∈ G, g < 65536) ∧ (∀ j, gap = some j → j ≤ G.length) ∧ G.length ≤ 8 ∧ ((x < s.size ∧ refT ((bts s).drop x) G gap = R) ∨ (x = s.size ∧ fin G gap = R))
/-- a piece: from x to e -/
def PieceAt (s : ByteArray) (x e : Nat) (p : List UInt8) : Prop :=
  x + p.length = e ∧ e ≤ s.size ∧ (bts s).drop x = p ++ (bts s).drop e ∧ (58 : UInt8) ∉ p ∧ (e = s.size ∨ ∃ h : e < s.size, (s[e]'h).toNat = 58)
theorem PieceAt.get {s : ByteArray} {x e : Nat} {p : List UInt8} (h : PieceAt s x e p) {y : Nat} (hx : x ≤ y) (hy : y < e) : ∃ hs : y < s.size, p[y - x]? = some (s[y]'hs) := by
  obtain ⟨h1, h2, h3, _⟩ := h
  refine ⟨by omega, ?_⟩
  have e1 : ((bts s).drop x)[y - x]? = some (s[y]'(by omega)) := by
    rw [List.getElem?_drop, show x + (y - x) = y by omega]
    exact List.getElem?_eq_getElem (by rw [bts_len]; omega)
  rw [h3, List.getElem?_append_left (by omega)] at e1
  exact e1
theorem PieceAt.snoc {s : ByteArray} {x e : Nat} {p : List UInt8} (h : PieceAt s x e p) {y : Nat} (hx : x ≤ y) (hy : y < e) : ∃ hs : y < s.size, (s[y]'hs).toNat ≠ 58 ∧ p.take (y + 1 - x) = p.take (y - x) ++ [s[y]'hs] := by
  obtain ⟨hs, hg⟩ := h.get hx hy
  refine ⟨hs, fun k => h.2.2.2.1 ?_, ?_⟩
  · have : s[y] = (58 : UInt8) := UInt8.toNat.inj k
    rw [this] at hg
    exact List.mem_of_getElem? hg
  · obtain ⟨hl, he⟩ := List.getElem?_eq_some_iff.1 hg
    rw [show y + 1 - x = y - x + 1 by omega, List.take_succ_eq_append_getElem hl, he]
theorem RefAt.piece {s : ByteArray} {x : Nat} (hx : x ≤ s.size) : ∃ e p, PieceAt s x e p := by
  obtain ⟨p, tl, e1, e2, e3⟩ := span_at 58 ((bts s).drop x)
  have hl := congrArg List.length e1
  rw [List.length_drop, bts_len, List.length_append] at hl
  have hd : (bts s).drop (x + p.length) = tl := by rw [← List.drop_drop, e1, List.drop_left]
  refine ⟨x + p.length, p, rfl, by omega, by rw [hd]; exact e1, e2, ?_⟩
  rcases e3 with ⟨rfl, _⟩ | ⟨r, rfl, _⟩
  · simp at hl; exact .inl (by omega)
  · simp at hl
    have hlt : x + p.length < s.size := by omega
    refine .inr ⟨hlt, ?_⟩
    rw [drop_at hlt] at hd
    injection hd with h1 _
    rw [h1]; rfl
theorem PieceAt.tail {s : ByteArray} {x e : Nat} {p : List UInt8} (h : PieceAt s x e p) : (bts s).drop e = [] ∨ ∃ r, (bts s).drop e = 58 :: r := by
  rcases h.2.2.2.2 with rfl | ⟨hl, h58⟩
  · exact .inl (drop_end s)
  · refine .inr ⟨(bts s).drop (e + 1), ?_⟩
    rw [drop_at hl]
    have : s[e] = (58 : UInt8) := UInt8.toNat.inj h58
    rw [this]
/-- what the piece says -/
theorem RefAt.step {s : ByteArray} {R : Option (Bool × Nat)} {x e : Nat} {p : List UInt8} {G : List Nat} {gap : Option Nat} (h : RefAt s R x G gap) (hx : x < s.size) (hp : PieceAt s x e p) :
    ((46 : UInt8) ∈ p → R = match refFour none [] ((bts s).drop x) with | none => none | some t => fin (G ++ grp t) gap)
    ∧ ((46 : UInt8) ∉ p → hex16 p = none → R = none)
    ∧ (∀ g, (46 : UInt8) ∉ p → hex16 p = some g → (8 ≤ G.length ∧ R = none) ∨ (G.length < 8 ∧ g < 65536 ∧
        ((e = s.size ∧ fin (G ++ [g]) gap = R) ∨ (e < s.size ∧ ((e + 1 = s.size ∧ R = none)
          ∨ (∃ h1 : e + 1 < s.size, (s[e + 1]'h1).toNat = 58 ∧ ((gap.isSome = true ∧ R = none) ∨ (gap = none ∧ ((e + 2 = s.size ∧ fin (G ++ [g]) (some (G.length + 1)) = R) ∨ (e + 2 < s.size ∧ RefAt s R (e + 2) (G ++ [g]) (some (G.length + 1)))))))
          ∨ (∃ h1 : e + 1 < s.size, (s[e + 1]'h1).toNat ≠ 58 ∧ RefAt s R (e + 1) (G ++ [g]) gap)))))) := by
  obtain ⟨_, hG, hj, h8, ⟨_, hR⟩ | ⟨hR, _⟩⟩ := h
  · have ht := hp.tail
    have h3 := hp.2.2.1
    have h58 := hp.2.2.2.1
    refine ⟨fun h46 => ?_, fun h46 hh => ?_, fun g h46 hg => ?_⟩
    · rw [← hR]
      conv => lhs; rw [h3, refT_dot h58 h46 ht, ← h3]
      cases refFour none [] ((bts s).drop x) <;> rfl
    · rw [← hR, h3]; exact refT_bad h58 h46 hh ht
    · by_cases hfull : 8 ≤ G.length
      · exact .inl ⟨hfull, by rw [← hR, h3]; exact refT_full h58 h46 hg hfull ht⟩
      have hgl : g < 65536 := by
        unfold hex16 at hg
        split at hg
        · cases hg
        · rename_i hc
          have hlt := hexM_lt hg
          have : 16 ^ p.length ≤ 16 ^ 4 := Nat.pow_le_pow_right (by omega) (by omega)
          omega
      have hGg : ∀ y ∈ G ++ [g], y < 65536 := by
        intro y hy
        rcases List.mem_append.1 hy with k | k
        · exact hG y k
        · simp at k; omega
      have hGl : (G ++ [g]).length = G.length + 1 := by simp
      refine .inr ⟨by omega, hgl, ?_⟩
      rcases hp.2.2.2.2 with he | ⟨he, hc⟩
      · refine .inl ⟨he, ?_⟩
        rw [← hR, h3, he, drop_end]
        exact (refT_last h58 h46 hg hfull).symm
      · refine .inr ⟨he, ?_⟩
        have hc' : s[e] = (58 : UInt8) := UInt8.toNat.inj hc
        rw [drop_at he, hc'] at h3
        rcases Nat.lt_or_ge (e + 1) s.size with he1 | he1
        · by_cases h2 : (s[e + 1]'he1).toNat = 58
          · have h2' : s[e + 1] = (58 : UInt8) := UInt8.toNat.inj h2
            rw [drop_at he1, h2'] at h3
            refine .inr (.inl ⟨he1, h2, ?_⟩)
            cases gap with
            | some j => exact .inl ⟨rfl, by rw [← hR, h3]; exact refT_twice h58 h46 hg hfull rfl⟩
            | none =>
              refine .inr ⟨rfl, ?_⟩
              rcases Nat.lt_or_ge (e + 1 + 1) s.size with he2 | he2
              · refine .inr ⟨he2, by omega, hGg, fun j h => by cases h; omega, by omega, .inl ⟨he2, ?_⟩⟩
                rw [← hR, h3]
                refine (refT_gap h58 h46 hg hfull ?_).symm
                rw [drop_at he2]
                simp
              · have hz : e + 1 + 1 = s.size := by omega
                refine .inl ⟨hz, ?_⟩
                rw [← hR, h3, hz, drop_end]
                exact (refT_end h58 h46 hg hfull).symm
          · refine .inr (.inr ⟨he1, h2, by omega, hGg, fun j h => by have := hj j h; omega, by omega, .inl ⟨he1, ?_⟩⟩)
            rw [← hR, h3, drop_at he1]
            exact (refT_next h58 h46 hg hfull (fun k => h2 (by rw [k]; rfl))).symm
        · have hz : e + 1 = s.size := by omega
          refine .inl ⟨hz, ?_⟩
          rw [← hR, h3, hz, drop_end]
          exact refT_trail h58 h46 hg hfull
  · omega
theorem hexM_app : ∀ (a b : List UInt8) (n : Nat), hexM n (a ++ b) = match hexM n a with | none => none | some m => hexM m b
  | [], b, n => rfl
  | c :: a, b, n => by
    simp only [List.cons_append, hexM]
    cases hexV c with
    | none => rfl
    | some d => exact hexM_app a b (16 * n + d)
theorem hexM_stop {p : List UInt8} {k : Nat} (h : hexM 0 (p.take k) = none) : hex16 p = none := by
  unfold hex16
  split
  · rfl
  · rw [← List.take_append_drop k p, hexM_app, h]
theorem hexM_room {p : List UInt8} {k m : Nat} (h : hexM 0 (p.take k) = some m) (hk : k ≤ 4) : m < 16 ^ k := by
  have := hexM_lt h
  have h2 : 16 ^ (p.take k).length ≤ 16 ^ k := Nat.pow_le_pow_right (by omega) (by rw [List.length_take]; exact Nat.min_le_left _ _)
  omega
theorem hex16_short {p : List UInt8} (h : p.length = 0 ∨ 4 < p.length) : hex16 p = none := by
  unfold hex16
  rw [if_pos]
  rcases h with h | h
  · exact .inl (List.eq_nil_of_length_eq_zero h)
  · exact .inr h
theorem hex16_is {p : List UInt8} {m : Nat} (h0 : p.length ≠ 0) (h4 : ¬ 4 < p.length) (h : hexM 0 p = some m) : hex16 p = some m := by
  unfold hex16
  rw [if_neg, h]
  rintro (rfl | k)
  · exact h0 rfl
  · exact h4 k
theorem bts_from {s : ByteArray} {x : Nat} : bts (s.extract x s.size) = (bts s).drop x := by
  unfold bts
  rw [ByteArray.data_extract, Array.toList_extract, List.extract_eq_take_drop]
  exact List.take_of_length_le (by rw [List.length_drop]; exact Nat.le_refl _)
theorem allB_len (B z : List Nat) (gap : Option Nat) (i : Nat) : (allB B z gap i).length ≤ B.length + z.length := by
  unfold allB
  split
  · rw [List.length_take]; omega
  · split
    · rw [List.length_append, List.length_append, List.length_drop, List.length_take, List.length_take]; omega
    · rw [List.length_take]; omega
/-- the state ahead of the first round -/
theorem RefAt.start {s : ByteArray} {R : Option (Bool × Nat)} (h : refA (bts s) = R) (h58 : (58 : UInt8) ∈ bts s) :
    (∃ (h2 : 2 ≤ s.size), (s[0]'(by omega)).toNat = 58 ∧ (s[1]'(by omega)).toNat = 58 ∧ RefAt s R 2 [] (some 0)) ∨
    (RefAt s R 0 [] none ∧ (s.size < 2 ∨ ∃ (h2 : 2 ≤ s.size), (s[0]'(by omega)).toNat ≠ 58 ∨ ((s[0]'(by omega)).toNat = 58 ∧ (s[1]'(by omega)).toNat ≠ 58))) := by
  have h0 : 0 < s.size := by
    rw [← bts_len]
    exact List.length_pos_of_mem h58
  have hd0 : bts s = s[0]'h0 :: (bts s).drop 1 := by rw [← drop_at h0]; rfl
  unfold refA at h
  rcases Nat.lt_or_ge s.size 2 with hl | hl
  · have hz : s.size = 1 := by omega
    have hd1 : (bts s).drop 1 = [] := by rw [← hz]; exact drop_end s
    refine .inr ⟨⟨by omega, by simp, by simp, by simp, .inl ⟨h0, ?_⟩⟩, .inl hl⟩
    rw [if_neg (by rw [hd0, hd1]; simp [List.isPrefixOf])] at h
    exact h
  · have h1 : 1 < s.size := by omega
    have hd1 := drop_at h1
    rw [hd1] at hd0
    by_cases e0 : (s[0]'h0).toNat = 58
    · by_cases e1 : (s[1]'h1).toNat = 58
      · have e0' : s[0] = (58 : UInt8) := UInt8.toNat.inj e0
        have e1' : s[1] = (58 : UInt8) := UInt8.toNat.inj e1
        rw [if_pos (by rw [hd0, e0', e1']; rfl)] at h
        refine .inl ⟨hl, e0, e1, by omega, by simp, by simp, by simp, ?_⟩
        by_cases hz : s.size = 2
        · rw [if_pos (by rw [← hz]; exact drop_end s)] at h
          exact .inr ⟨hz.symm, h⟩
        · have h2 : 2 < s.size := by omega
          rw [if_neg (by rw [drop_at h2]; simp)] at h
          exact .inl ⟨h2, h⟩
      · rw [if_neg] at h
        · exact .inr ⟨⟨by omega, by simp, by simp, by simp, .inl ⟨h0, h⟩⟩, .inr ⟨hl, .inr ⟨e0, e1⟩⟩⟩
        · rw [hd0]
          simp only [List.isPrefixOf, Bool.and_true, Bool.and_eq_true, beq_iff_eq, not_and]
          intro _ k
          exact e1 (by rw [← k]; rfl)
    · rw [if_neg] at h
      · exact .inr ⟨⟨by omega, by simp, by simp, by simp, .inl ⟨h0, h⟩⟩, .inr ⟨hl, .inl e0⟩⟩
      · rw [hd0]
        simp only [List.isPrefixOf, Bool.and_true, Bool.and_eq_true, beq_iff_eq, not_and]
        intro k
        exact absurd (by rw [← k]; rfl) e0
end Go.Proofs.YtgdgklibilddgaaDoor
